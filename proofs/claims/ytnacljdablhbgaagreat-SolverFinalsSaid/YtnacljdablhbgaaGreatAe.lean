/- AbsGo: one operation of the evaluator's is one of the model's: slice expressions (no condition). -/
import Derived.Test.YtnacljdablhbgaaGreatAd
import Derived.Laws.AppendOwn
namespace Go.AG
section
variable {C:Cx}{g:Gh}{U:Nat->Option (List AV)}{h h':AH}{w:World}{tm:Tm}{tmps:Array Value}{v:AV}
def BT (a:Option Addr)(sz l hb m:Nat):Value:=.slice (if m=l then a else a.map (·.add (l*sz))) (hb-l) (m-l)
theorem xw {t el:TypeId}{sz:Nat}{a:Option Addr}{len cap l hb m:Nat}{lo hi mx:Option Value}(hd:und C.T t=some (.slice el))(hn:szT C.T el=some sz)
  (hb':(Instr.sliceBounds true len cap lo hi mx).run C.P w=.ok (l,hb,m) w) :
  (Instr.sliceAt t (.slice a len cap) lo hi mx).run C.P w=.ok (BT a sz l hb m) w:=by
 simp[Instr.sliceAt,bh hd,Instr.slice,hb',bU hn,BT]
theorem cut_list {es:List AV}{sz:Nat}{b off l hb m:Nat}(hs:∀e∈es,e.cells.length=sz)(ha:aO (flat es)=true)(hr:fm g b off (flat es))(hl:l<=hb)(hh:hb<=es.length)(hm:hb<=m):
  (tke (Nat.sub hb l) (drp l es)=[]/\BT (some ⟨b,off,none⟩) sz l hb m=.slice (if m=l then some ⟨b,off,none⟩ else (some ⟨b,off,none⟩:Option Addr).map (·.add (l*sz))) 0 (m-l))∨
  (∃b' off',BT (some ⟨b,off,none⟩) sz l hb m=.slice (some ⟨b',off',none⟩) (hb-l) (m-l)/\(∀e∈tke (Nat.sub hb l) (drp l es),e.cells.length=sz)/\
   aO (flat (tke (Nat.sub hb l) (drp l es)))=true/\fm g b' off' (flat (tke (Nat.sub hb l) (drp l es)))/\(tke (Nat.sub hb l) (drp l es)).length=hb-l):=by
 rw[lz,fM];have hsub:Nat.sub hb l=hb-l:=rfl;rw[hsub];by_cases hz:hb=l
 ·left;subst hz;refine⟨by simp,by unfold BT;rw[Nat.sub_self]⟩
 ·right;have hml:¬m=l:=by omega
  refine⟨b,off+l*sz,?_,fun e he=>hs e (List.mem_of_mem_drop (List.mem_of_mem_take he)),?_,?_,by simp;omega⟩
  ·unfold BT;rw[wad hml];simp[iO]
  ·rw[vE hs (by omega)];exact fw (du ha _) _
  ·rw[vE hs (by omega)];refine hr.sub (l*sz) ((hb-l)*sz) ?_;rw[dY hs];exact Nat.mul_le_mul_right sz (by omega)
theorem nS {sz:Nat}{es:List AV}(e:fl sz es=true){sz':Nat}(hs:∀e∈es,e.cells.length=sz')(hne:es≠[]):sz'=sz:=by
 cases es with
 |nil=>exact absurd rfl hne
 |cons x es=>rw[<-hs x (.head _)];exact(xh sz _).1 e x (.head _)
theorem yP (s:Sim C g U h w)(ht:eQ g tm tmps){o:Oper}{t el:TypeId}{x:Operand}{lo hi:Option Operand}{ax:AX}{alo ahi:Option AX}{sz n hb l:Nat}(ho:o.op=.slice t x lo hi none)
  (hd:und C.T t=some (.slice el)) (hsz:szT C.T el=some sz) (hx:cX x=some ax) (hlo:nJ lo=some alo) (hhi:nJ hi=some ahi)
  (e1:yt (ev ax tm)=some n) (e2:wW ahi tm n n=some hb) (e3:wW alo tm 0 hb=some l) (e:By (ev ax tm) h sz l hb=some (v,h')) :
  im C g U h ((execOp (gt tmps) o).run C.P w) v h':=by
 have rx:=bN ht hx;have b1:=oO ht hhi e2;have b2:=oO ht hlo e3;have hbn:hb<=n:=by rcases b1 with⟨_,h⟩|⟨_,_,_,_,h⟩<;>omega
 have hlb:l<=hb:=by rcases b2 with⟨_,h⟩|⟨_,_,_,_,h⟩<;>omega
 have run:∀a cap,n<=cap->gt tmps x=.slice a n cap->(execOp (gt tmps) o).run C.P w=.ok (.value (BT a sz l hb cap)) w:=by
  intro a cap hcap hu;have hbds:=jw (C:=C) (w:=w) (tmps:=tmps) (b:=true) (len:=n) (cap:=cap) (l:=l) (hb:=hb) (lo:=lo) (hi:=hi)
   (by
     rcases b1 with q|⟨y,k,q1,q2,q3⟩
     ·exact .inl q
     ·exact .inr ⟨y,k,q1,q2,by omega⟩) b2
  have:=xw (a:=a) hd hsz hbds;simp[execOp,ho,hu,this]
 generalize ev ax tm=a at rx e e1;cases a<;>first|(cases e;done)|skip
 case nl=>
  cases e1;have:hb=0:=by omega
  have:l=0:=by omega
  subst_vars;cases e;refine aY s (run none 0 (Fv _) rx.nils_inv) ?_;exact .nl
 case ls es=>
  obtain⟨hc,e⟩:=aH (c:=fl sz es) e;cases e;have e1:some (len es)=some n:=e1;rw[bH]at e1;cases e1;obtain⟨a,cap,hu,hcap,hcase⟩:=rx.lst_inv;refine aY s (run a cap hcap hu) ?_;rcases hcase with rfl|⟨sz',b,off,rfl,hs,ha,hr⟩
  ·have q1:hb=0:=by simpa using hbn
   subst q1;have q2:l=0:=by omega
   subst q2;exact .lst0
  ·by_cases hne:es=[]
   ·subst hne;have q1:hb=0:=by simpa using hbn
    subst q1;have q2:l=0:=by omega
    subst q2;exact .lst0
   ·have:=nS hc hs hne;subst this;rcases cut_list (m:=cap) hs ha hr hlb hbn (by omega) with⟨q1,q2⟩|⟨b',off',q1,q2,q3,q4,q5⟩
    ·rw[q1,q2];exact .lst0
    ·rw[q1];exact .ls q2 q3 q5.symm (by omega) q4
 case clip es=>
  obtain⟨hc,e⟩:=aH (c:=fl sz es) e;cases e;have e1:some (len es)=some n:=e1;rw[bH]at e1;cases e1;obtain⟨a,hu,hcase⟩:=rx.clip_inv;refine aY s (run a _ (Fv _) hu) ?_;rcases hcase with rfl|⟨sz',b,off,rfl,hs,ha,hr⟩
  ·have q1:hb=0:=by simpa using hbn
   subst q1;have q2:l=0:=by omega
   subst q2;exact .lst0
  ·by_cases hne:es=[]
   ·subst hne;have q1:hb=0:=by simpa using hbn
    subst q1;have q2:l=0:=by omega
    subst q2;exact .lst0
   ·have:=nS hc hs hne;subst this;rcases cut_list (m:=es.length) hs ha hr hlb hbn (by omega) with⟨q1,q2⟩|⟨b',off',q1,q2,q3,q4,q5⟩
    ·rw[q1,q2];exact .lst0
    ·rw[q1];exact .ls q2 q3 q5.symm (by omega) q4
 case row k gn sz' off m=>
  obtain⟨hc,e⟩:=aH (c:=Nat.beq sz' sz) e;cases e;have hc:=beq_eq hc;subst hc;cases e1;obtain⟨lc,a,hl,hs,hle,hu,ha⟩:=rx.row_inv;refine aY s (run a _ (by omega) hu) ?_;have ea:Nat.add off l=off+l:=rfl;have es:Nat.sub hb l=hb-l:=rfl;rw[ea,es];unfold BT;by_cases hz:lc.cap-off=l
  ·rw[wae hz];have q1:hb-l=0:=by omega
   have q2:lc.cap-off-l=0:=by omega
   rw[q1,q2];exact .row0 hl hs (by omega)
  ·rw[wad hz];rcases ha with rfl|⟨q1,q2⟩
   ·have:=bu.row (g:=g) (k:=k) (n:=gn) (sz:=sz') (off:=off+l) (len:=hb-l) hl hs (by omega);rw[show lc.cap-off-l=lc.cap-(off+l) by omega];rw[Nat.add_mul,<-Nat.add_assoc]at this;simpa [iO] using this
   ·omega
theorem ma (s:Sim C g U h w){k n sz:Nat}{r:Bool×List AV×Nat}{l:Loc}(hl:g.ρ k n=some l)(e:lg h k n sz=some r):
  h.get k=some (.row n sz r.1 r.2.1 r.2.2)/\U k=none/\g.w0.heap.size<=l.block/\OAt C g w k l (.row n sz r.1 r.2.1 r.2.2):=by
 obtain⟨o,ho,e⟩:=ah e;obtain⟨q,hq,e⟩:=ah e;obtain⟨hc,e⟩:=aH e;cases e;obtain⟨c1,c2⟩:=dd hc;have d1:=beq_eq c1;have d2:=beq_eq c2;clear c1 c2 hc;cases o<;>first|(cases hq;done)|skip
 case row n' sz' agg cs fz=>
  cases hq;simp only at d1 d2;subst d1;subst d2;have hu:=s.live hl;obtain⟨l',h1,h2,h3⟩:=s.obj k _ ho hu;have h1:g.ρ k n=some l':=h1;rw[hl]at h1;cases h1;exact⟨ho,hu,h2,h3⟩
theorem wv (s:Sim C g U h w)(ht:eQ g tm tmps){o:Oper}{t el:TypeId}{x mx:Operand}{lo hi:Option Operand}{ax amx:AX}{alo ahi:Option AX}{sz n hb l:Nat}(ho:o.op=.slice t x lo hi (some mx))
  (hd:und C.T t=some (.slice el)) (hsz:szT C.T el=some sz) (hp:0<sz) (hx:cX x=some ax) (hlo:nJ lo=some alo) (hhi:nJ hi=some ahi) (hmx:cX mx=some amx) {yy:AX} (hsome:ahi=some yy)
  (e1:yt (ev ax tm)=some n) (e2:wW ahi tm n n=some hb) (e3:wW alo tm 0 hb=some l) (e4:lX (ev amx tm) n=some hb) (e:TL (ev ax tm) h sz l hb=some (v,h')) :
  im C g U h ((execOp (gt tmps) o).run C.P w) v h':=by
 have rx:=bN ht hx;have b1:=oO ht hhi e2;have b2:=oO ht hlo e3;have hbn:hb<=n:=by rcases b1 with⟨_,h⟩|⟨_,_,_,_,h⟩<;>omega
 have hlb:l<=hb:=by rcases b2 with⟨_,h⟩|⟨_,_,_,_,h⟩<;>omega
 obtain⟨⟨k4,h4⟩,_⟩:=mJ e4;have rm:=bN ht hmx;rw[h4]at rm;have run:∀a cap,n<=cap->gt tmps x=.slice a n cap->(execOp (gt tmps) o).run C.P w=.ok (.value (BT a sz l hb hb)) w:=by
  intro a cap hcap hu;rcases b1 with⟨q1,_⟩|⟨y,k,rfl,q2,q3⟩
  ·subst q1;cases hhi;cases hsome
  ·have hbds:=mM (C:=C) (w:=w) (tmps:=tmps) (len:=n) (cap:=cap) (l:=l) (hb:=hb) (lo:=lo) q2 rm.int_inv (by omega) b2;have:=xw (a:=a) hd hsz hbds;simp[execOp,ho,hu,this]
 generalize ev ax tm=a at rx e e1;cases a<;>first|(cases e;done)|skip
 case nl=>
  cases e1;have:hb=0:=by omega
  have:l=0:=by omega
  subst_vars;cases e;refine aY s (run none 0 (Fv _) rx.nils_inv) ?_;exact .nl
 case ls es=>
  obtain⟨hc,e⟩:=aH (c:=fl sz es) e;cases e;have e1:some (len es)=some n:=e1;rw[bH]at e1;cases e1;obtain⟨a,cap,hu,hcap,hcase⟩:=rx.lst_inv;refine aY s (run a cap hcap hu) ?_;rcases hcase with rfl|⟨sz',b,off,rfl,hs,ha,hr⟩
  ·have q1:hb=0:=by simpa using hbn
   subst q1;have q2:l=0:=by omega
   subst q2;exact .clip0
  ·by_cases hne:es=[]
   ·subst hne;have q1:hb=0:=by simpa using hbn
    subst q1;have q2:l=0:=by omega
    subst q2;exact .clip0
   ·have:=nS hc hs hne;subst this;rcases cut_list (m:=hb) hs ha hr hlb hbn (Fv _) with⟨q1,q2⟩|⟨b',off',q1,q2,q3,q4,q5⟩
    ·rw[q1,q2];have:hb-l=0:=by
      have:=congrArg List.length q1;rw[lz,fM]at this;have hsub:Nat.sub hb l=hb-l:=rfl;rw[hsub]at this;simp at this;omega
     rw[this];exact .clip0
    ·rw[q1];exact .clip q2 q3 q5.symm q5 q4
 case clip es=>
  obtain⟨hc,e⟩:=aH (c:=fl sz es) e;cases e;have e1:some (len es)=some n:=e1;rw[bH]at e1;cases e1;obtain⟨a,hu,hcase⟩:=rx.clip_inv;refine aY s (run a _ (Fv _) hu) ?_;rcases hcase with rfl|⟨sz',b,off,rfl,hs,ha,hr⟩
  ·have q1:hb=0:=by simpa using hbn
   subst q1;have q2:l=0:=by omega
   subst q2;exact .clip0
  ·by_cases hne:es=[]
   ·subst hne;have q1:hb=0:=by simpa using hbn
    subst q1;have q2:l=0:=by omega
    subst q2;exact .clip0
   ·have:=nS hc hs hne;subst this;rcases cut_list (m:=hb) hs ha hr hlb hbn (Fv _) with⟨q1,q2⟩|⟨b',off',q1,q2,q3,q4,q5⟩
    ·rw[q1,q2];have:hb-l=0:=by
      have:=congrArg List.length q1;rw[lz,fM]at this;have hsub:Nat.sub hb l=hb-l:=rfl;rw[hsub]at this;simp at this;omega
     rw[this];exact .clip0
    ·rw[q1];exact .clip q2 q3 q5.symm q5 q4
 case row k gn sz' off m=>
  obtain⟨hc,e⟩:=aH (c:=Nat.beq sz' sz) e;have hc:=beq_eq hc;subst hc;obtain⟨r,hr,e⟩:=ah e;obtain⟨es,hes,e⟩:=ah e;cases e;cases e1;obtain⟨lc,a,hl,hs,hle,hu,ha⟩:=rx.row_inv;obtain⟨r1,r2,r3,r4⟩:=ma s hl hr;obtain⟨q1,q2,us,t',q3,q4,q5,q6,q7,q8,q9⟩:=r4;rw[fM]at hes;have hoff:Nat.mul (Nat.add off l) sz'=(off+l)*sz':=rfl;have hsub:Nat.sub hb l=hb-l:=rfl;have hoh:Nat.mul (Nat.add off hb) sz'=(off+hb)*sz':=rfl;rw[hoff,hsub]at hes;have ch:=kh hes (du q7 _);obtain⟨ex,s'⟩:=s.shut (m:=(off+hb)*sz') r1 r2 hl q3;rw[Xk,hoh];refine⟨_,w,_,.inl (run a _ (by omega) hu),ex,s',?_,Low.set _ _ _⟩;by_cases hz:hb=l
  ·subst hz;have:es=[]:=by have:=ch.len;rw[Nat.sub_self]at this;exact List.length_eq_zero_iff.1 this
   subst this;unfold BT;rw[Nat.sub_self];exact .clip0
  ·rcases ha with rfl|⟨q,_⟩
   ·have hcl:=ch.le;simp only[List.length_drop]at hcl;have hmul:(off+l)*sz'+(hb-l)*sz'=(off+hb)*sz':=by rw[<-Nat.add_mul];congr 1;omega
    have hpos:0<(hb-l)*sz':=Nat.mul_pos (by omega) hp;unfold BT;rw[wad hz];simp only[Option.map_some,iO];have haddr:lc.base+off*sz'+l*sz'=lc.base+(off+l)*sz':=by rw[Nat.add_mul];omega
    rw[haddr];refine .clip ch.size ?_ ch.len.symm ch.len ?_
    ·rw[ch.flat];exact fw (du q7 _) _
    ·rw[ch.flat];refine fm.mk (us:=((((us.toList.drop lc.base).take r.2.1.length).drop ((off+l)*sz')).take ((hb-l)*sz'))) (((q6.mono ex).drop _).take _) fun i u hi=>?_
     have hi1:i<(hb-l)*sz':=by
      rw[List.getElem?_take]at hi;split at hi
      ·assumption
      ·cases hi
     rw[List.getElem?_take,wae hi1,List.getElem?_drop,List.getElem?_take]at hi;split at hi
     ·have:=Gh.fz_at g lc.block lc.base ((us.toList.drop lc.base).take ((off+hb)*sz')) (i:=(off+l)*sz'+i) (u:=u)
       (by rw[List.getElem?_take,wae (by omega)];exact hi)
      rw[<-Nat.add_assoc]at this;exact this
     ·cases hi
   ·omega
theorem Bj (s:Sim C g U h w)(ht:eQ g tm tmps){o:Oper}{t:TypeId}{x:Operand}{lo hi:Option Operand}{ax:AX}{alo ahi:Option AX}(ho:o.op=.slice t x lo hi none)
  (hd:und C.T t=some .string) (hx:cX x=some ax) (hlo:nJ lo=some alo) (hhi:nJ hi=some ahi) (e:okV (ic (ev ax tm) tm alo ahi) h=.val v h') :
  im C g U h ((execOp (gt tmps) o).run C.P w) v h':=by
 obtain⟨e',rfl⟩:=dJ e;clear e;obtain⟨sv,hsv,e'⟩:=ah e';obtain⟨hb,e2,e'⟩:=ah e';obtain⟨l,e3,e'⟩:=ah e';cases e';have rx:=bN ht hx;rw[kj hsv]at rx;have b1:=oO ht hhi e2;have b2:=oO ht hlo e3;have hbds:=jw (C:=C) (w:=w) (tmps:=tmps) (b:=false) (len:=sv.size) (cap:=sv.size) b1 b2;refine aY s ?_ (.str _);simp[execOp,ho,rx.str_inv,Instr.sliceAt,bh hd,Instr.slice,hbds]
end
section
variable {C:Cx}{g:Gh}{U:Nat->Option (List AV)}{h h':AH}{w:World}{tm:Tm}{tmps:Array Value}{v:AV}
theorem Dy {d:TypeDesc}{n:Nat}{a b:AV}{x y:Value}{r:Bool}(hn:LU d=some n)(ha:bu g a x)(hb:bu g b y)(e:cE n a b=some r):Instr.sameNow d x y=some r:=by
 rcases sameKey_cases e with⟨rfl,k,m,m',rfl,rfl,rfl⟩|⟨rfl,s,s',rfl,rfl,rfl⟩|⟨n1,n2,p,q,rfl,rfl,rfl⟩
 ·rcases tagD_ok hn with⟨h0,_⟩|⟨_,k',rfl⟩|⟨h0,_⟩
  ·omega
  ·rw[ha.int_inv,hb.int_inv];simp[Instr.sameNow]
  ·omega
 ·rcases tagD_ok hn with⟨h0,_⟩|⟨h0,_⟩|⟨_,rfl⟩
  ·omega
  ·omega
  ·rw[ha.str_inv,hb.str_inv,kY];rfl
 ·rcases tagD_ok hn with⟨_,rfl⟩|⟨h0,_⟩|⟨h0,_⟩
  ·rw[ha.bool_inv,hb.bool_inv];rfl
  ·omega
  ·omega
theorem Eg (e:AV×AV)(l:List (AV×AV))(t:Nat)(k:AV):jI (e::l) t k=aq (cE t k e.1) fun b=>cond b (some (some e.2)) (jI l t k):=rfl
theorem JP (e:AV×AV)(l:List (AV×AV))(t:Nat)(k v:AV):pH (e::l) t k v=Option.casesOn (cE t k e.1) (e::pH l t k v) fun b=>cond b ((k,v)::l) (e::pH l t k v):=rfl
theorem findNow_ok {d:TypeDesc}{n:Nat}{k:AV}{x:Value}(hn:LU d=some n)(hk:bu g k x):∀{l:List (AV×AV)} {es:List MapEntry} {r:Option AV} (i:Nat),lI g l es->jI l n k=some r->
  (r=none/\Instr.findNow d x es i=some none/\pH l n k v=l++[(k,v)])∨
  (∃(a:AV) (j:Nat) (e:MapEntry) (y:Value),r=some a/\Instr.findNow d x es i=some (some (i+j,y))/\bu g a y/\es[j]?=some e/\pH l n k v=l.set j (k,v)/\(∃k0,l[j]?=some (k0,a)/\bu g k0 e.key/\cE n k k0=some true))
 |_,_,r,i,.nil,e=>by cases e;exact .inl ⟨rfl,rfl,rfl⟩
 |_,_,r,i,.cons (k:=k') (v:=v') (e:=me) (l:=l) (es:=es) hk' hv' t,e=>by
  rw[Eg]at e;obtain⟨b,hb,e⟩:=ah e;have hs:=Dy hn hk hk' hb;rw[JP];simp only at hb;rw[hb];cases b with
  |true=>
   cases e;exact .inr ⟨v',0,me,me.val,rfl,by simp[Instr.findNow,hs],hv',rfl,rfl,k',rfl,hk',hb⟩
  |false=>
   have e:jI l n k=some r:=e;rcases findNow_ok hn hk (i+1) t e with⟨h1,h2,h3⟩|⟨a,j,me',y,h1,h2,h3,h4,h5,k0,h6,h7,h8⟩
   ·exact .inl ⟨h1,by simp[Instr.findNow,hs,h2],by simp[h3]⟩
   ·exact .inr ⟨a,j+1,me',y,h1,by simp[Instr.findNow,hs,h2];omega,h3,by simpa using h4,by simp[h5],k0,by simpa using h6,h7,h8⟩
theorem iD {t:TypeId}{d:TypeDesc}{n:Nat}(hd:und C.T t=some d)(hn:LU d=some n)(b:Bool)(x:Value)(dep:Nat):(Instr.checkKey b (dep+1) t x).run C.P w=.ok () w:=by
 unfold Instr.checkKey;simp only[Sem.run_bind,bh hd,Result.andThen_ok];rcases tagD_ok hn with⟨_,rfl⟩|⟨_,k,rfl⟩|⟨_,rfl⟩<;>rfl
theorem tp {t:TypeId}{p:Nat×TypeId}(e:kZ C.T t=some p):∃kt d,und C.T t=some (.map kt p.2)/\und C.T kt=some d/\LU d=some p.1:=by
 obtain⟨d,hd,e⟩:=ah e;obtain⟨ke,hke,e⟩:=ah e;obtain⟨d',hd',e⟩:=ah e;obtain⟨n,hn,e⟩:=ah e;cases e;cases d<;>first|(cases hke;done)|skip
 case map kt el=>
  cases hke;exact⟨kt,d',hd,hd',hn⟩
theorem sF (s:Sim C g U h w){k:Nat}{l:Loc}{es:List (AV×AV)}(hl:g.ρ k 0=some l)(e:Aw h k=some es):
  h.get k=some (.map es)/\U k=none/\∃mes clock,w.heap[l.block]?=some (.map mes clock)/\lI g es mes.toList/\MP mes clock:=by
 obtain⟨o,ho,e⟩:=ah e;cases o<;>first|(cases e;done)|skip
 case map es'=>
  cases e;have hu:=s.live hl;obtain⟨l',h1,h2,h3⟩:=s.obj k _ ho hu;have h1:g.ρ k 0=some l':=h1;rw[hl]at h1;cases h1;exact⟨ho,hu,h3⟩
theorem ku {r:Nat}{ob:Obj}(e:w.heap[r]?=some ob)(hc:∀c t f,ob≠.cells c t f):(getObj r).run C.P w=.ok ob w:=by
 unfold getObj;cases ob<;>first|(exact absurd rfl (hc _ _ _))|simp only[Sem.run,e]
theorem iV {r:Nat}{ob ob':Obj}(e:w.heap[r]?=some ob)(hc:∀c t f,ob≠.cells c t f):(setObj r ob').run C.P w=.ok () (setBlk w r ob'):=by
 unfold setObj;cases ob<;>first|(exact absurd rfl (hc _ _ _))|(simp only[Sem.run,e];rfl)
theorem lI.length {l:List (AV×AV)}{es:List MapEntry}(h:lI g l es):l.length=es.length:=by
 induction h with
 |nil=>rfl
 |cons _ _ _ ih=>simp[ih]
theorem Kl (s:Sim C g U h w)(ht:eQ g tm tmps){o:Oper}{t:TypeId}{x i:Operand}{ax ai:AX}{p:Nat×TypeId}{z:AV}{ok:Bool}(ho:o.op=.lookup t x i ok)(hp:kZ C.T t=some p)
  (hz:jS C.T p.2=some z) (hx:cX x=some ax) (hi:cX i=some ai) (e:okV (gZ h p.1 z ok (ev ax tm) (ev ai tm)) h=.val v h'):im C g U h ((execOp (gt tmps) o).run C.P w) v h':=by
 obtain⟨e',rfl⟩:=dJ e;clear e;obtain⟨b0,hb0,e'⟩:=ah e';obtain⟨r,hr,e'⟩:=ah e';cases e';obtain⟨kt,d,hd,hkt,hn⟩:=tp hp;obtain⟨iz,zv,hiz,hzv,hzr,_⟩:=iM g hz;have zrun:=dt (w:=w) hiz hzv;have rx:=bN ht hx;have ri:=bN ht hi;have fin:∀(es:List MapEntry) (l:List (AV×AV)),lI g l es->jI l p.1 (ev ai tm)=some r->
   ∃fr,(Instr.findKey kt (gt tmps i) es).run C.P w=.ok fr w/\((fr=none/\r=none)∨∃j y a,fr=some (j,y)/\r=some a/\bu g a y):=by
  intro es l he hf;rcases findNow_ok (v:=z) hn ri 0 he hf with⟨rfl,h2,_⟩|⟨a,j,me,y,rfl,h2,h3,h4,_⟩
  ·exact⟨none,by simp[Instr.findKey,bh hkt,h2],.inl ⟨rfl,rfl⟩⟩
  ·exact⟨some (0+j,y),by simp[Instr.findKey,bh hkt,h2],.inr ⟨_,_,_,rfl,rfl,h3⟩⟩
 generalize ev ax tm=a at rx hr;cases a<;>first|(cases hr;done)|skip
 case nilm=>
  cases hr;obtain⟨fr,hfr,hcase⟩:=fin [] [] .nil rfl;rcases hcase with⟨rfl,_⟩|⟨_,_,_,_,q,_⟩
  ·refine aY (u:=if ok then .tuple #[zv,.bool false] else zv) s ?_ ?_
   ·simp only[execOp,ho,rx.nilm_inv,Instr.lookup,Sem.run_bind,bh hd,Result.andThen_ok,Sem.run_pure,iD hkt hn,hfr,zrun]
   ·cases ok
    ·exact hzr
    ·exact .tup (.cons hzr (.cons (.bool _) .nil))
  ·cases q
 case map k=>
  obtain⟨es,hes,hr⟩:=ah hr;obtain⟨l,hl,hu⟩:=rx.map_inv;obtain⟨q1,q2,mes,clock,q3,q4,_⟩:=sF s hl hes;obtain⟨fr,hfr,hcase⟩:=fin mes.toList es q4 hr;have hg:=ku (C:=C) q3 (fun _ _ _ q=>by cases q);rcases hcase with⟨rfl,rfl⟩|⟨j,y,a,rfl,rfl,hay⟩
  ·refine aY (u:=if ok then .tuple #[zv,.bool false] else zv) s ?_ ?_
   ·simp only[execOp,ho,hu,Instr.lookup,Sem.run_bind,bh hd,Result.andThen_ok,Sem.run_pure,hg,iD hkt hn,hfr,zrun]
   ·cases ok
    ·exact hzr
    ·exact .tup (.cons hzr (.cons (.bool _) .nil))
  ·refine aY (u:=if ok then .tuple #[y,.bool true] else y) s ?_ ?_
   ·simp only[execOp,ho,hu,Instr.lookup,Sem.run_bind,bh hd,Result.andThen_ok,Sem.run_pure,hg,iD hkt hn,hfr]
   ·cases ok
    ·exact hay
    ·exact .tup (.cons hay (.cons (.bool _) .nil))
theorem yL {n:Nat}{a b:AV}{x y:Value}(ha:bu g a x)(hb:bu g b y)(e:cE n a b=some true)(dep:Nat):Instr.sameBits dep y x=true:=by
 rcases sameKey_cases e with⟨rfl,k,m,m',rfl,rfl,hr⟩|⟨rfl,s,s',rfl,rfl,hr⟩|⟨n1,n2,p,q,rfl,rfl,hr⟩
 ·rw[ha.int_inv,hb.int_inv];have:m=m':=by simpa using hr.symm
  subst this;simp[Instr.sameBits]
 ·rw[ha.str_inv,hb.str_inv];rw[kY]at hr;have:(s'==s)=true:=by
   have e1:(s==s')=(s.data==s'.data):=rfl;have e2:(s'==s)=(s'.data==s.data):=rfl;rw[e1]at hr;have:s.data=s'.data:=by simpa using hr.symm
   rw[e2,this];simp
  simp[Instr.sameBits,this]
 ·rw[ha.bool_inv,hb.bool_inv];have:p=q:=by simpa using hr.symm
  subst this;simp[Instr.sameBits]
theorem lI.set {k v:AV}{e':MapEntry}(hk:bu g k e'.key)(hv:bu g v e'.val):∀{l:List (AV×AV)} {es:List MapEntry} (j:Nat),lI g l es->lI g (l.set j (k,v)) (es.set j e')
 |_,_,_,.nil=>by simp;exact .nil
 |_,_,0,.cons _ _ t=>.cons hk hv t
 |_,_,j+1,.cons a b t=>.cons a b (lI.set hk hv j t)
theorem lI.snoc {k v:AV}{e':MapEntry}(hk:bu g k e'.key)(hv:bu g v e'.val):∀{l:List (AV×AV)} {es:List MapEntry},lI g l es->lI g (l++[(k,v)]) (es++[e'])
 |_,_,.nil=>.cons hk hv .nil
 |_,_,.cons a b t=>.cons a b (lI.snoc hk hv t)
theorem NI (s:Sim C g U h w)(ht:eQ g tm tmps){o:Oper}{t:TypeId}{m k x:Operand}{am ak ax:AX}{p:Nat×TypeId}(ho:o.op=.mapUpdate t m k x)(hp:kZ C.T t=some p)
  (hm:cX m=some am) (hk:cX k=some ak) (hx:cX x=some ax) (e:okH (kN h p.1 (ev am tm) (ev ak tm) (ev ax tm))=.val v h'):im C g U h ((execOp (gt tmps) o).run C.P w) v h':=by
 obtain⟨e',rfl⟩:=zo e;clear e;obtain⟨r,hr,e'⟩:=ah e';obtain⟨es,hes,e'⟩:=ah e';obtain⟨b0,hb0,e'⟩:=ah e';obtain⟨fr,hfr,e'⟩:=ah e';cases e';obtain⟨kt,d,hd,hkt,hn⟩:=tp hp;have rm:=bN ht hm;have rk:=bN ht hk;have rx:=bN ht hx;rw[DU hr]at rm;obtain⟨l,hl,hu⟩:=rm.map_inv;obtain⟨q1,q2,mes,clock,q3,q4,hB1,hB2⟩:=sF s hl hes;have hg:=ku (C:=C) q3 (fun _ _ _ q=>by cases q);have hlt:l.block<w.heap.size:=(Array.getElem?_eq_some_iff.1 q3).1;have noF:∀i y,g.F l.block i≠some y:=fun i y q=>by
  have:=s.frz _ _ _ q;unfold World.cell? at this;simp only[q3]at this;cases this
 have put:∀(mes':Array MapEntry) (clock':Nat),lI g (pH es p.1 (ev ak tm) (ev ax tm)) mes'.toList->MP mes' clock'->
   Sim C g U (h.set r (.map (pH es p.1 (ev ak tm) (ev ax tm)))) (setBlk w l.block (.map mes' clock')):=by
  intro mes' clock' he hB;exact s.put q1 q2 hl rfl ⟨mes',clock',eK hlt,he,hB⟩ (fun i y q=>absurd q (noF i y))
 rcases findNow_ok (v:=ev ax tm) hn rk 0 q4 hfr with⟨rfl,h2,h3⟩|⟨a,j,me,y,rfl,h2,h4,h5,h6,k0,h7,h8,h9⟩
 ·have he:lI g (pH es p.1 (ev ak tm) (ev ax tm)) (mes.push {key:=gt tmps k,val:=gt tmps x,born:=clock}).toList:=by
   rw[h3,Array.toList_push];exact q4.snoc rk rx
  have hB:MP (mes.push {key:=gt tmps k,val:=gt tmps x,born:=clock}) (clock+1):=by
   refine⟨fun y hy=>?_,?_⟩
   ·rw[Array.toList_push]at hy;rcases List.mem_append.1 hy with hy|hy
    ·exact Nat.lt_succ_of_lt (hB1 y hy)
    ·simp at hy;subst hy;exact Nat.lt_succ_self _
   ·rw[Array.toList_push,List.map_append];refine List.nodup_append.2 ⟨hB2,by simp,fun a ha b hb=>?_⟩;obtain⟨y,hy,rfl⟩:=List.mem_map.1 ha;simp at hb;subst hb;have:=hB1 y hy;omega
  refine⟨g,_,undef,.inr ⟨?_,rfl⟩,.refl g,put _ (clock+1) he hB,.tup .nil,Low.set _ _ _⟩;have hfk:(Instr.findKey kt (gt tmps k) mes.toList).run C.P w=.ok none w:=by simp[Instr.findKey,bh hkt,h2]
  have hso:=iV (C:=C) (ob':=.map (mes.push {key:=gt tmps k,val:=gt tmps x,born:=clock}) (clock+1)) q3 (fun _ _ _ q=>by cases q);simp only[execOp,ho,hu,Instr.mapUpdate,Sem.run_bind,bh hd,Result.andThen_ok,hg,iD hkt hn,hfk,hso,Sem.run_pure]
 ·have hj:j<mes.size:=by have:=getElem?_lt h5;simpa using this
  have hbits:Instr.sameBits 10000 me.key (gt tmps k)=true:=yL rk h8 h9 _;have he:lI g (pH es p.1 (ev ak tm) (ev ax tm)) (mes.modify j fun e=>{e with key:=gt tmps k,val:=gt tmps x}).toList:=by
   rw[h6];have e1:(mes.modify j fun e=>{e with key:=gt tmps k,val:=gt tmps x}).toList=mes.toList.set j {me with key:=gt tmps k,val:=gt tmps x}:=by
    apply List.ext_getElem?;intro i;rw[Array.getElem?_toList,Array.getElem?_modify,List.getElem?_set];have h5':mes[j]?=some me:=by simpa using h5
    by_cases hij:j=i
    ·subst hij;have hme:mes[j]=me:=by rw[Array.getElem?_eq_getElem hj]at h5';exact Option.some.inj h5'
     simp[hj,hme]
    ·simp[hij]
   rw[e1];exact q4.set rk rx j
  have hB:MP (mes.modify j fun e=>{e with key:=gt tmps k,val:=gt tmps x}) clock:=by
   have e1:((mes.modify j fun e=>{e with key:=gt tmps k,val:=gt tmps x}).toList.map (·.born))=mes.toList.map (·.born):=by
    apply List.ext_getElem?;intro i;rw[List.getElem?_map,List.getElem?_map,Array.getElem?_toList,Array.getElem?_toList,Array.getElem?_modify];by_cases hij:j=i
    ·subst hij;rw[wae rfl];cases mes[j]?<;>rfl
    ·rw[wad hij]
   refine⟨fun y hy=>?_,by rw[e1];exact hB2⟩;have:y.born∈mes.toList.map (·.born):=by rw[<-e1];exact List.mem_map_of_mem hy
   obtain⟨z,hz,e⟩:=List.mem_map.1 this;rw[<-e];exact hB1 z hz
  refine⟨g,_,undef,.inr ⟨?_,rfl⟩,.refl g,put _ clock he hB,.tup .nil,Low.set _ _ _⟩;have hfk:(Instr.findKey kt (gt tmps k) mes.toList).run C.P w=.ok (some (0+j,y)) w:=by simp[Instr.findKey,bh hkt,h2]
  have hso:=iV (C:=C) (ob':=.map (mes.modify j fun e=>{e with key:=gt tmps k,val:=gt tmps x}) clock) q3 (fun _ _ _ q=>by cases q);have h5':mes[j]?=some me:=by simpa using h5
  have hks:(Instr.keyThatStays (((mes[j]?).map (·.key)).getD (gt tmps k)) (gt tmps k)).run C.P w=.ok (gt tmps k) w:=by
   rw[h5'];simp[Instr.keyThatStays,hbits]
  simp only[execOp,ho,hu,Instr.mapUpdate,Sem.run_bind,bh hd,Result.andThen_ok,hg,iD hkt hn,hfk,hks,wac,hso,Sem.run_pure]
theorem ady (s:Sim C g U h w)(ht:eQ g tm tmps){o:Oper}{c:Call}{x:Operand}{ax:AX}{t:TypeId}{d:TypeDesc}{kk:Nat}(ho:o.op=.call c)(hc:c.callee=.builtin .len)(ha:c.args=#[x])
  (hty:c.argTypes.toList[0]?=some t) (hd:und C.T t=some d) (hl:lenD d=some kk) (hx:cX x=some ax)
  (e:okV (aq (lenOf (ev ax tm) h kk) fun n=>some (.int .i64 (.ofNat n))) h=.val v h'):im C g U h ((execOp (gt tmps) o).run C.P w) v h':=by
 obtain⟨e',rfl⟩:=dJ e;clear e;obtain⟨n,hn,e'⟩:=ah e';cases e';have rx:=bN ht hx;have hty':c.argTypes[0]?=some t:=by simpa using hty
 have run:(Builtin.len_ c.argTypes o.type #[gt tmps x]).run C.P w=.ok (.int .i64 (n:Int)) w->(execOp (gt tmps) o).run C.P w=.ok (.value (.int .i64 (n:Int))) w:=by
  intro hq;simp[execOp,ho,resolve,hc,ha,invoke,builtin,hq]
 refine aY s (run ?_) (.int _ _);have lenk:(kk=0/\d=.string)∨(kk=1/\∃el,d=.slice el)∨(kk=2/\∃k el,d=.map k el):=by
  cases d<;>first|(cases hl;done)|skip
  case string=>cases hl;exact .inl ⟨rfl,rfl⟩
  case slice el=>cases hl;exact .inr (.inl ⟨rfl,el,rfl⟩)
  case map k el=>cases hl;exact .inr (.inr ⟨rfl,k,el,rfl⟩)
 have slice:∀a m cap,gt tmps x=.slice a m cap->kk=1->(Builtin.len_ c.argTypes o.type #[gt tmps x]).run C.P w=.ok (.int .i64 (m:Int)) w:=by
  intro a m cap hu hk;rcases lenk with⟨q,_⟩|⟨_,el,rfl⟩|⟨q,_⟩
  ·omega
  ·simp[Builtin.len_,hty',hu,bh hd,goInt]
  ·omega
 generalize ev ax tm=a at rx hn;cases a<;>first|(cases hn;done)|skip
 case str sv=>
  obtain⟨hk,hn⟩:=aH (c:=Nat.beq kk 0) hn;cases hn;have hk:=beq_eq hk;rcases lenk with⟨_,rfl⟩|⟨q,_⟩|⟨q,_⟩
  ·simp[Builtin.len_,hty',rx.str_inv,bh hd,goInt]
  ·omega
  ·omega
 case nl=>
  obtain⟨hk,hn⟩:=aH (c:=Nat.beq kk 1) hn;cases hn;exact slice _ _ _ rx.nils_inv (beq_eq hk)
 case ls es=>
  obtain⟨hk,hn⟩:=aH (c:=Nat.beq kk 1) hn;cases hn;rw[bH];obtain⟨a,cap,hu,_⟩:=rx.lst_inv;exact slice _ _ _ hu (beq_eq hk)
 case clip es=>
  obtain⟨hk,hn⟩:=aH (c:=Nat.beq kk 1) hn;cases hn;rw[bH];obtain⟨a,hu,_⟩:=rx.clip_inv;exact slice _ _ _ hu (beq_eq hk)
 case row k gn sz off m=>
  obtain⟨hk,hn⟩:=aH (c:=Nat.beq kk 1) hn;cases hn;obtain⟨l,a,_,_,_,hu,_⟩:=rx.row_inv;exact slice _ _ _ hu (beq_eq hk)
 case nilm=>
  obtain⟨hk,hn⟩:=aH (c:=Nat.beq kk 2) hn;cases hn;have hk:=beq_eq hk;rcases lenk with⟨q,_⟩|⟨q,_⟩|⟨_,k,el,rfl⟩
  ·omega
  ·omega
  ·simp[Builtin.len_,hty',rx.nilm_inv,bh hd,goInt]
 case map k=>
  obtain⟨hk,hn⟩:=aH (c:=Nat.beq kk 2) hn;obtain⟨es,hes,hn⟩:=ah hn;cases hn;have hk:=beq_eq hk;obtain⟨l,hl',hu⟩:=rx.map_inv;obtain⟨q1,q2,mes,clock,q3,q4,_⟩:=sF s hl' hes;have hg:=ku (C:=C) q3 (fun _ _ _ q=>by cases q);have hsz:len es=mes.size:=by rw[bH,q4.length];simp
  rw[hsz];rcases lenk with⟨q,_⟩|⟨q,_⟩|⟨_,k',el,rfl⟩
  ·omega
  ·omega
  ·simp[Builtin.len_,hty',hu,bh hd,goInt,hg]
theorem xE (m n:Int):Fb false m n=if n > m then n else m:=by
 show cond (leI n m) m n=_;rw[qK];by_cases h:n<=m
 ·rw[HE h,wad (by omega)];rfl
 ·rw[HD h,wae (by omega)];rfl
theorem Kd (m n:Int):Fb true m n=if n<m then n else m:=by
 show cond (leI m n) m n=_;rw[qK];by_cases h:m<=n
 ·rw[HE h,wad (by omega)];rfl
 ·rw[HD h,wae (by omega)];rfl
theorem tg (x:AV)(l:List AV)(less:Bool)(k:IntKind)(m:Int):wP (x::l) less k m=aq (zc x) fun p=>wP l less k (Fb less m p.2):=rfl
theorem Ik:∀{l:List AV} {us:List Value} {k:IntKind} {m:Int},aR g l us->wP l false k m=some v->∃u,(us.foldlM Builtin.max2 (.int k m)).run C.P w=.ok u w/\bu g v u
 |_,_,k,m,.nil,e=>by cases e;exact⟨_,by simp,.int _ _⟩
 |_,_,k,m,.cons (a:=a) (l:=l) (us:=us) h t,e=>by
  rw[tg]at e;obtain⟨p,hp,e⟩:=ah e;rw[iw hp]at h;rw[xE]at e;obtain⟨u,hu,hv⟩:=Ik t e;refine⟨u,?_,hv⟩;rw[List.foldlM_cons,h.int_inv];simp only[Builtin.max2,Sem.run_bind,Sem.run_pure,Result.andThen_ok];exact hu
theorem Ij:∀{l:List AV} {us:List Value} {k:IntKind} {m:Int},aR g l us->wP l true k m=some v->∃u,(us.foldlM Builtin.min2 (.int k m)).run C.P w=.ok u w/\bu g v u
 |_,_,k,m,.nil,e=>by cases e;exact⟨_,by simp,.int _ _⟩
 |_,_,k,m,.cons (a:=a) (l:=l) (us:=us) h t,e=>by
  rw[tg]at e;obtain⟨p,hp,e⟩:=ah e;rw[iw hp]at h;rw[Kd]at e;obtain⟨u,hu,hv⟩:=Ij t e;refine⟨u,?_,hv⟩;rw[List.foldlM_cons,h.int_inv];simp only[Builtin.min2,Sem.run_bind,Sem.run_pure,Result.andThen_ok];exact hu
theorem adw (s:Sim C g U h w)(ht:eQ g tm tmps){o:Oper}{c:Call}{la:List AX}(ho:o.op=.call c)(hc:c.callee=.builtin .max)(ha:cXs c.args=some la)
  (e:okV (vY false (evs la tm)) h=.val v h'):im C g U h ((execOp (gt tmps) o).run C.P w) v h':=by
 obtain⟨e',rfl⟩:=dJ e;clear e;have hr:=mV ht ha;cases hl:evs la tm with
 |nil=>rw[hl]at e';cases e'
 |cons x l=>
  rw[hl]at e' hr;obtain⟨p,hp,e'⟩:=ah (o:=zc x) e';have hargs:(c.args.map (gt tmps)).toList=c.args.toList.map (gt tmps):=by simp
  cases hm:c.args.toList.map (gt tmps) with
  |nil=>rw[hm]at hr;cases hr
  |cons u us=>
   rw[hm]at hr hargs;cases hr with
   |cons h1 h2=>
    rw[iw hp]at h1;obtain⟨y,hy,hv⟩:=Ik (C:=C) (w:=w) h2 e';refine aY s ?_ hv;rw[<-h1.int_inv]at hy;simp[execOp,ho,resolve,hc,invoke,builtin,Builtin.max_,hm,hy]
theorem adv (s:Sim C g U h w)(ht:eQ g tm tmps){o:Oper}{c:Call}{la:List AX}(ho:o.op=.call c)(hc:c.callee=.builtin .min)(ha:cXs c.args=some la)
  (e:okV (vY true (evs la tm)) h=.val v h'):im C g U h ((execOp (gt tmps) o).run C.P w) v h':=by
 obtain⟨e',rfl⟩:=dJ e;clear e;have hr:=mV ht ha;cases hl:evs la tm with
 |nil=>rw[hl]at e';cases e'
 |cons x l=>
  rw[hl]at e' hr;obtain⟨p,hp,e'⟩:=ah (o:=zc x) e';cases hm:c.args.toList.map (gt tmps) with
  |nil=>rw[hm]at hr;cases hr
  |cons u us=>
   rw[hm]at hr;cases hr with
   |cons h1 h2=>
    rw[iw hp]at h1;obtain⟨y,hy,hv⟩:=Ij (C:=C) (w:=w) h2 e';refine aY s ?_ hv;rw[<-h1.int_inv]at hy;simp[execOp,ho,resolve,hc,invoke,builtin,Builtin.min_,hm,hy]
end
section
variable {C:Cx}{g:Gh}{U:Nat->Option (List AV)}{h h':AH}{w:World}{tm:Tm}{tmps:Array Value}{v:AV}
theorem sj {l:Loc}{us:Array Value}{t:TypeId}{cs:List AV}{off:Nat}(e:w.heap[l.block]?=some (.cells us t (0,0))):
  ∀i y,((((us.toList.drop l.base).take cs.length).drop off)[i]?)=some y->w.cell? ⟨l.block,l.base+off+i,none⟩=some y:=by
 intro i y hi;rw[cell_of_row _ _ _ us t (0,0) e];rw[List.getElem?_drop,List.getElem?_take]at hi;split at hi
 ·rw[List.getElem?_drop]at hi;rw[Nat.add_assoc];simpa using hi
 ·cases hi
theorem jU {b off sz n:Nat}{a:Addr}{len cap:Nat}{ws:List Value}(ha:a=⟨b,off,none⟩)(hn:n*sz<=ws.length)(hc:∀i y,ws[i]?=some y->w.cell? ⟨b,off+i,none⟩=some y):
  (Builtin.firstCells sz n (.slice (some a) len cap)).run C.P w=.ok ⟨ws.take (n*sz)⟩ w:=by
 subst ha;have:=lF (C:=C) (w:=w) (b:=b) (off:=off) (us:=ws.take (n*sz)) (fun i y hi=>hc i y (by
  rw[List.getElem?_take]at hi;split at hi
  ·exact hi
  ·cases hi))
 rw[List.length_take,Nat.min_eq_left hn]at this;exact this
theorem vL (s:Sim C g U h w){x:AV}{u:Value}{sz:Nat}{xs:List AV}(hx:bu g x u)(e:sa x h sz=some xs):
  ∃a cap ws,u=.slice a xs.length cap/\xs.length<=cap/\aR g (flat xs) ws/\aO (flat xs)=true/\(∀e∈xs,e.cells.length=sz)/\
   ∀(w':World) (n:Nat),(∀b o y,b<w.heap.size->w.cell? ⟨b,o,none⟩=some y->w'.cell? ⟨b,o,none⟩=some y)->n<=xs.length->(Builtin.firstCells sz n u).run C.P w'=.ok ⟨ws.take (n*sz)⟩ w':=by
 have fin:∀(a:Option Addr) (cap:Nat),u=.slice a xs.length cap->xs.length<=cap->fl sz xs=true->
   (xs=[]∨∃sz b off,a=some ⟨b,off,none⟩/\(∀e∈xs,e.cells.length=sz)/\aO (flat xs)=true/\fm g b off (flat xs))->
   ∃a cap ws,u=.slice a xs.length cap/\xs.length<=cap/\aR g (flat xs) ws/\aO (flat xs)=true/\(∀e∈xs,e.cells.length=sz)/\
   ∀(w':World) (n:Nat),(∀b o y,b<w.heap.size->w.cell? ⟨b,o,none⟩=some y->w'.cell? ⟨b,o,none⟩=some y)->n<=xs.length->(Builtin.firstCells sz n u).run C.P w'=.ok ⟨ws.take (n*sz)⟩ w':=by
  intro a cap hu hcap hsz hcase;rcases hcase with rfl|⟨sz',b,off,rfl,hs,ha,hr⟩
  ·refine⟨a,cap,[],hu,hcap,.nil,rfl,fun e he=>by simp at he,fun w' n _ hn=>?_⟩;have:n=0:=by simpa using hn
   subst this;rw[hu];cases a with
   |none=>simp[Builtin.firstCells]
   |some a=>simp[Builtin.firstCells,loadCells,loadCellsFrom]
  ·by_cases hne:xs=[]
   ·subst hne;refine⟨_,cap,[],hu,hcap,.nil,rfl,fun e he=>by simp at he,fun w' n _ hn=>?_⟩;have:n=0:=by simpa using hn
    subst this;rw[hu];simp[Builtin.firstCells,loadCells,loadCellsFrom]
   ·have:=nS hsz hs hne;subst this;obtain⟨ws,hv,hF⟩:=hr.vals;refine⟨_,cap,ws,hu,hcap,hv,ha,hs,fun w' n hw hn=>?_⟩;rw[hu];refine jU rfl ?_ fun i y hi=>hw _ _ _ (s.frz_lt (hF i y hi)) (s.frz _ _ _ (hF i y hi))
    rw[<-hv.length,dY hs];exact Nat.mul_le_mul_right _ hn
 cases x<;>first|(cases e;done)|skip
 case nl=>
  cases e;refine⟨none,0,[],hx.nils_inv,Fv _,.nil,rfl,fun e he=>by simp at he,fun w' n _ hn=>?_⟩;rw[hx.nils_inv];simp[Builtin.firstCells]
 case ls es=>
  obtain⟨hc,e⟩:=aH (c:=fl sz es) e;cases e;obtain⟨a,cap,hu,hcap,hcase⟩:=hx.lst_inv;exact fin a cap hu hcap hc hcase
 case clip es=>
  obtain⟨hc,e⟩:=aH (c:=fl sz es) e;cases e;obtain⟨a,hu,hcase⟩:=hx.clip_inv;exact fin a _ hu (Fv _) hc hcase
 case row k gn sz' off m=>
  obtain⟨hc,e⟩:=aH (c:=Nat.beq sz' sz) e;have hc:=beq_eq hc;subst hc;obtain⟨r,hr,e⟩:=ah e;rw[fM]at e;obtain⟨l,a,hl,hs,hle,hu,ha⟩:=hx.row_inv;obtain⟨r1,r2,r3,r4⟩:=ma s hl hr;obtain⟨q1,q2,us,t',q3,q4,q5,q6,q7,q8,q9⟩:=r4;have hoff:Nat.mul off sz'=off*sz':=rfl;rw[hoff]at e;have ch:=kh e (du q7 _);have hm:xs.length=m:=ch.len;have hcle:=ch.le;rcases ha with rfl|⟨rfl,_⟩
  ·refine⟨_,l.cap-off,(((us.toList.drop l.base).take r.2.1.length).drop (off*sz')).take (m*sz'),by rw[hm];exact hu,by omega,?_,?_,ch.size,fun w' n hw hn=>?_⟩
   ·rw[ch.flat];exact(q6.drop _).take _
   ·rw[ch.flat];exact fw (du q7 _) _
   ·rw[hu];have hlen:(((us.toList.drop l.base).take r.2.1.length).drop (off*sz')).length=(r.2.1.drop (off*sz')).length:=by rw[<-(q6.drop (off*sz')).length]
    have hnm:n*sz'<=m*sz':=Nat.mul_le_mul_right _ (by omega);refine jU rfl ?_ fun i y hi=>?_
    ·rw[List.length_take,hlen];omega
    ·refine hw _ _ _ (Array.getElem?_eq_some_iff.1 q3).1 (sj (cs:=r.2.1) (off:=off*sz') q3 i y ?_);rw[List.getElem?_take]at hi;split at hi
     ·exact hi
     ·cases hi
  ·have:xs=[]:=List.length_eq_zero_iff.1 hm;subst this;refine⟨a,l.cap-off,[],hu,Nat.zero_le _,.nil,rfl,ch.size,fun w' n _ hn=>?_⟩;have:n=0:=by simpa using hn
   subst this;rw[hu];cases a with
   |none=>simp[Builtin.firstCells]
   |some a=>simp[Builtin.firstCells,loadCells,loadCellsFrom]
theorem xS (n:Nat):∀(r c:Nat),Builtin.growBy n r c<=max c (n+n / 4+193)
 |0,c=>Nat.le_max_left _ _
 |r+1,c=>by
  unfold Builtin.growBy;split
  ·exact Nat.le_max_left _ _
  ·have:=xS n r (c+(c+768) / 4);omega
theorem tv {need cap:Nat}(h:cap<need):Builtin.nextslicecap need cap<=2*need+1000:=by
 unfold Builtin.nextslicecap;split
 ·omega
 ·split
  ·omega
  ·have:=xS need 4 cap;omega
theorem Xg {n m bytes:Nat}(e:need n m bytes=true):(2*(n+m)+1000)*bytes<=140737488355328/\n+m<=9223372036854775807:=by
 obtain⟨h1,h2⟩:=dd e;exact⟨eG h1,eG h2⟩
theorem yG (z:Array Value)(n:Nat):Builtin.zeroCells z n=(Array.range (n*z.size)).map fun i=>z[i % z.size]!:=rfl
end
section
variable {C:Cx}{g:Gh}{U:Nat->Option (List AV)}{h h':AH}{w:World}{tm:Tm}{tmps:Array Value}{v:AV}
structure acL (C:Cx)(tys:Array TypeId)(el:TypeId)(sz bytes:Nat)(zv:Value):Prop where
 t0:∃t,tys[0]?=some t/\und C.T t=some (.slice el)
 t1:∃t e,tys[1]?=some t/\und C.T t=some (.slice e)
 hsz:szT C.T el=some sz
 info:∃i,C.T.get el=some i/\i.bytes=bytes/\i.zero=some zv
 zlen:zv.cells.size=sz
 pos:0<sz
theorem gQ {tys:Array TypeId}{ty el:TypeId}{sz bytes:Nat}{zv:Value}(A:acL C tys el sz bytes zv){a:Option Addr}{n cap:Nat}{x:Value}(hn:n<=cap){b:Option Addr}{c:Nat}
  (hx:x=.slice b 0 c) (hf:(Builtin.firstCells sz 0 x).run C.P w=.ok #[] w):(Builtin.append_ tys ty #[.slice a n cap,x]).run C.P w=.ok (.slice a n cap) w:=by
 obtain⟨t,ht,hd⟩:=A.t0;obtain⟨t',e',ht',hd'⟩:=A.t1;subst hx;cases a with
 |none=>simp[Builtin.append_,ht,ht',bh hd,bh hd',bU A.hsz,Builtin.lenOf,hn,hf]
 |some a=>simp[Builtin.append_,ht,ht',bh hd,bh hd',bU A.hsz,Builtin.lenOf,hn,hf,storeCells]
theorem wm {tys:Array TypeId}{ty el:TypeId}{sz bytes:Nat}{zv:Value}(A:acL C tys el sz bytes zv){a:Addr}{n m cap:Nat}{x:Value}(hn:n+m<=cap){b:Option Addr}{c:Nat}
  (hx:x=.slice b m c) {ws:List Value} (hf:(Builtin.firstCells sz m x).run C.P w=.ok ⟨ws⟩ w) {w':World} (hst:(storeCells (a.add (n*sz)) ws).run C.P w=.ok () w') :
  (Builtin.append_ tys ty #[.slice (some a) n cap,x]).run C.P w=.ok (.slice (some a) (n+m) cap) w':=by
 obtain⟨t,ht,hd⟩:=A.t0;obtain⟨t',e',ht',hd'⟩:=A.t1;subst hx;simp[Builtin.append_,ht,ht',bh hd,bh hd',bU A.hsz,Builtin.lenOf,hn,hf,hst]
theorem jV {tys:Array TypeId}{ty el:TypeId}{sz bytes:Nat}{zv:Value}(A:acL C tys el sz bytes zv){a:Option Addr}{n m cap:Nat}{x:Value}(hn:cap<n+m){b:Option Addr}{c:Nat}
  (hx:x=.slice b m c) {os ws:List Value} (ho:(Builtin.firstCells sz n (.slice a n cap)).run C.P w.drew=.ok ⟨os⟩ w.drew) (hf:(Builtin.firstCells sz m x).run C.P w.drew=.ok ⟨ws⟩ w.drew)
  (hneed:need n m bytes=true) :
  (Builtin.append_ tys ty #[.slice a n cap,x]).run C.P w=.ok (.slice (some ⟨w.heap.size,0,none⟩) (n+m) (grownCap w (n+m) cap el))
   (w.drew.alloc (.cells (⟨os⟩++⟨ws⟩++Builtin.zeroCells zv.cells (grownCap w (n+m) cap el-(n+m))) el)):=by
 obtain⟨t,ht,hd⟩:=A.t0;obtain⟨t',e',ht',hd'⟩:=A.t1;obtain⟨i,hi,hby,hz⟩:=A.info;obtain⟨n1,n2⟩:=Xg hneed;subst hx;have hn':¬(n+m<=cap):=by omega
 have hm:IntKind.i64.max=9223372036854775807:=rfl;have h63:¬(9223372036854775807<((n:Int)+(m:Int))):=by omega
 have hcap:=AG.tv hn;have h48:¬(281474976710656<Builtin.nextslicecap (n+m) cap*i.bytes):=by
  have:Builtin.nextslicecap (n+m) cap*i.bytes<=(2*(n+m)+1000)*i.bytes:=Nat.mul_le_mul_right _ hcap;rw[hby]at this ⊢;omega
 simp[Builtin.append_,ht,ht',bh hd,bh hd',bU A.hsz,iC hi,dt hi hz,Builtin.lenOf,hn',hm,h63,h48,Question.forced,ho,hf,newRow,grownCap];congr 2;apply Array.ext';simp[List.append_assoc]
theorem CH (s:Sim C g U h w){el:TypeId}{sz n m cap:Nat}{agg:Bool}{zv:Value}{cs:List AV}{os ws:List Value}(hp:0<sz)(hz:zv.cells.size=sz)
  (hlo:os.length+ws.length=(n+m)*sz) (hv:aR g cs (os++ws)) (ha:aO cs=true) :
  ∃g' ,Ext g g'/\Sim C g' U (h.new (.row 0 sz agg cs 0)) (w.drew.alloc (.cells (⟨os⟩++⟨ws⟩++Builtin.zeroCells zv.cells (grownCap w (n+m) cap el-(n+m))) el))/\
   bu g' (.row h.z 0 sz 0 (n+m)) (.slice (some ⟨w.heap.size,0,none⟩) (n+m) (grownCap w (n+m) cap el)):=by
 have hge:=grownCap_ge w (n+m) cap el;have hlen:=hv.length;rw[List.length_append]at hlen;obtain⟨us,hus⟩:∃us,us=(⟨os⟩++⟨ws⟩++Builtin.zeroCells zv.cells (grownCap w (n+m) cap el-(n+m)):Array Value):=⟨_,rfl⟩
 rw[<-hus];have husz:us.size=grownCap w (n+m) cap el*sz:=by
  rw[hus];simp only[Array.size_append,size_zeroCells,hz];have e1:(⟨os⟩:Array Value).size=os.length:=rfl;have e2:(⟨ws⟩:Array Value).size=ws.length:=rfl;rw[e1,e2,hlo,<-Nat.add_mul];congr 1;omega
 have htake:us.toList.take cs.length=os++ws:=by
  rw[hus];simp only[Array.toList_append];rw[List.take_left' (by rw[List.length_append];omega)]
 obtain⟨g',w',hw',ex,s',hv'⟩:=sA (agg:=agg) s.drew el hp (grownCap w (n+m) cap el) hge (us:=us) (cs:=cs) (by omega)
  (by rw[hlen,hlo];exact Nat.mul_le_mul_right _ hge) (by rw[htake];exact hv) ha
 have:w'=w.drew.alloc (.cells us el):=by
  simp[newRow]at hw';exact hw'.symm
 subst this;exact⟨g',ex,s',hv'⟩
theorem wZ {α:Type}{l:List α}{n:Nat}(h:l.length=n):l.take n=l:=List.take_of_length_le (by omega)
theorem Kt (s:Sim C g U h w)(ht:eQ g tm tmps){o:Oper}{c:Call}{x y:Operand}{ax ay:AX}{el:TypeId}{sz:Nat}{z:AV}{i:TypeInfo}(ho:o.op=.call c)(hc:c.callee=.builtin .append)
  (ha:c.args=#[x,y]) (h0:kC C.T c.argTypes 0=some el) {e1:TypeId} (h1:kC C.T c.argTypes 1=some e1) (hsz:szT C.T el=some sz) (hz:jS C.T el=some z) (hi:C.T.get el=some i)
  (hp:0<sz) (hx:cX x=some ax) (hy:cX y=some ay) (e:pJ (dO h sz (cn C.T el) z.cells i.bytes (ev ax tm) (ev ay tm))=.val v h') :
  im C g U h ((execOp (gt tmps) o).run C.P w) v h':=by
 have e:=nX e;obtain⟨xs,hxs,e⟩:=ah e;obtain⟨hcond,e⟩:=aH e;obtain⟨hlie,hzlen⟩:=dd hcond;obtain⟨i',zv,hi',hzv,hzr,hzl,hzc,_⟩:=iM g hz;rw[hi]at hi';cases hi';obtain⟨i2,d2,hi2,hsz2,_⟩:=lY hsz;rw[hi]at hi2;cases hi2;have hzcells:zv.cells.size=sz:=by have:=(hzr.cells (lJ hzc)).length;simp at this;omega
 have A:acL C c.argTypes el sz i.bytes zv:=by
  obtain⟨t,ht0,hd⟩:=ah h0;obtain⟨d,hd,hd'⟩:=ah hd;cases d<;>first|(cases hd';done)|skip
  cases hd';obtain⟨t',ht1,hd1⟩:=ah h1;obtain⟨d,hd1,hd1'⟩:=ah hd1;cases d<;>first|(cases hd1';done)|skip
  cases hd1';exact⟨⟨t,by simpa using ht0,hd⟩,⟨t',_,by simpa using ht1,hd1⟩,hsz,⟨i,hi,rfl,hzv⟩,hzcells,hp⟩
 have rx:=bN ht hx;have ry:=bN ht hy;have lift:∀u w',(Builtin.append_ c.argTypes o.type #[gt tmps x,gt tmps y]).run C.P w=.ok u w'->(execOp (gt tmps) o).run C.P w=.ok (.value u) w':=by
  intro u w' hq;simp[execOp,ho,resolve,hc,ha,invoke,builtin,hq]
 obtain⟨b,cap',ws,hyu,hycap,hyv,hya,hys,hyrun⟩:=vL s ry hxs;have hwl:ws.length=xs.length*sz:=by rw[<-hyv.length,dY hys]
 have hyrun1:=hyrun w xs.length (fun _ _ _ _ q=>q) (Fv _);have hyrun2:=hyrun w.drew xs.length (fun _ _ _ _ q=>q) (Fv _);rw[wZ hwl]at hyrun1 hyrun2;cases hxs':xs with
 |nil=>
  subst hxs';have e:mX (ev ax tm) h=some (v,h'):=e;have hf0:(Builtin.firstCells sz 0 (gt tmps y)).run C.P w=.ok #[] w:=by
   have:=hyrun w 0 (fun _ _ _ _ q=>q) (Nat.zero_le _);simpa using this
  have hyu:gt tmps y=.slice b 0 cap':=hyu;generalize ev ax tm=a at rx e;cases a<;>first|(cases e;done)|skip
  case nl=>
   cases e;refine aY s (lift _ _ ?_) rx;rw[rx.nils_inv];exact gQ A (Fv _) hyu hf0
  case ls es=>
   cases e;refine aY s (lift _ _ ?_) rx;obtain⟨a,cap,hu,hcap,_⟩:=rx.lst_inv;rw[hu];exact gQ A hcap hyu hf0
  case clip es=>
   cases e;refine aY s (lift _ _ ?_) rx;obtain⟨a,hu,_⟩:=rx.clip_inv;rw[hu];exact gQ A (Fv _) hyu hf0
  case row k gn sz' off m=>
   cases e;refine aY s (lift _ _ ?_) rx;obtain⟨l,a,_,_,hle,hu,_⟩:=rx.row_inv;rw[hu];exact gQ A (by omega) hyu hf0
 |cons x0 xs0=>
  have hne:0<xs.length:=by rw[hxs'];simp
  have e:kQ (ev ax tm) h sz (cn C.T el) i.bytes xs=some (v,h'):=by rw[hxs']at e ⊢;exact e
  clear hxs';generalize ev ax tm=a at rx e;cases a<;>first|(cases e;done)|skip
  case nl=>
   obtain⟨hneed,e⟩:=aH (c:=need 0 (len xs) i.bytes) e;cases e;rw[bH]at hneed ⊢;have hrun:=jV (w:=w) (ty:=o.type) A (a:=none) (n:=0) (m:=xs.length) (cap:=0) (by omega) hyu (os:=[]) (by simp[Builtin.firstCells]) hyrun2 hneed;obtain⟨g',ex,s',hv⟩:=CH (agg:=cn C.T el) (el:=el) (cap:=0) (n:=0) (m:=xs.length) (os:=[]) s hp hzcells (cs:=flat xs) (by simpa using hwl) (by simpa using hyv) hya;refine⟨g',_,_,.inl (lift _ _ (by rw[rx.nils_inv];exact hrun)),ex,s',?_,Low.new _ _⟩;simpa using hv
  case clip es=>
   obtain⟨hcc,e⟩:=aH (c:=and (need (len es) (len xs) i.bytes) (and (fl sz es) (iu es))) e;obtain⟨hneed,hcc⟩:=dd hcc;obtain⟨hsz1,_⟩:=dd hcc;cases e;rw[bH,bH]at hneed;rw[bH,bH,fk];obtain⟨a',cap2,os,hxu,hxcap,hxv,hxa,hxs2,hxrun⟩:=vL s (sz:=sz) (xs:=es) rx (by show cond (fl sz es) (some es) none=_;rw[hsz1];rfl);have hol:os.length=es.length*sz:=by rw[<-hxv.length,dY hxs2]
   have hxrun2:=hxrun w.drew es.length (fun _ _ _ _ q=>q) (Fv _);rw[wZ hol,hxu]at hxrun2;obtain⟨a2,hu2,_⟩:=rx.clip_inv;have hcapeq:cap2=es.length:=by rw[hxu]at hu2;cases hu2;rfl
   subst hcapeq;have hrun:=jV (w:=w) (ty:=o.type) A (a:=a') (n:=es.length) (m:=xs.length) (cap:=es.length) (by omega) hyu hxrun2 hyrun2 hneed;obtain⟨g',ex,s',hv⟩:=CH (agg:=cn C.T el) (el:=el) (cap:=es.length) (n:=es.length) (m:=xs.length) (os:=os) (ws:=ws) s hp hzcells (cs:=flat es++flat xs)
    (by rw[hol,hwl,Nat.add_mul]) (hxv.append hyv) (by rw[eY,hxa,hya];rfl)
   exact⟨g',_,_,.inl (lift _ _ (by rw[hxu];exact hrun)),ex,s',hv,Low.new _ _⟩
  case row k gn sz' off m=>
   obtain⟨hc1,e⟩:=aH (c:=Nat.beq sz' sz) e;have hc1:=beq_eq hc1;subst hc1;obtain⟨r,hr,e⟩:=ah e;obtain⟨hcc,e⟩:=aH e;cases e;obtain⟨k1,hcc⟩:=dd hcc;obtain⟨k2,hcc⟩:=dd hcc;obtain⟨k3,hneed⟩:=dd hcc;have k1:=vh k1;have k2:r.2.2<=(off+m)*sz':=eG k2;have k3:=eG k3;rw[bH]at k3 hneed;have k3:(off+m)*sz'<=r.2.1.length:=k3;obtain⟨l,a,hl,hs,hle,hu,hacase⟩:=rx.row_inv;obtain⟨r1,r2,r3,r4⟩:=ma s hl hr;obtain⟨q1,q2,us,t',q3,q4,q5,q6,q7,q8,q9⟩:=r4;have hlt:l.block<w.heap.size:=(Array.getElem?_eq_some_iff.1 q3).1;have hmulle:off*sz'+m*sz'=(off+m)*sz':=by rw[Nat.add_mul]
   have holen:((r.2.1.drop (off*sz')).take (m*sz')).length=m*sz':=by simp;omega
   have hodv:=((q6.drop (off*sz')).take (m*sz'));have hodl:((((us.toList.drop l.base).take r.2.1.length).drop (off*sz')).take (m*sz')).length=m*sz':=by rw[<-hodv.length];exact holen
   have hoca:aO ((r.2.1.drop (off*sz')).take (m*sz'))=true:=fw (du q7 _) _;have hnew:aO ((r.2.1.drop (off*sz')).take (m*sz')++flat xs)=true:=by rw[eY,hoca,hya];rfl
   have hρnew:g.ρ k (gn+1)=none:=q9 (gn+1) (by omega);rw[fk,lz,fM,bH];have hobj:lC (.row (Nat.succ gn) sz' (cn C.T el) ((r.2.1.drop (Nat.mul off sz')).take (Nat.mul m sz')++flat xs) (Nat.sub r.2.2 (Nat.mul off sz')))=gn+1:=rfl;have hm1:Nat.mul off sz'=off*sz':=rfl;have hm2:Nat.mul m sz'=m*sz':=rfl;have hm3:Nat.sub r.2.2 (off*sz')=r.2.2-off*sz':=rfl;have hm4:Nat.add m xs.length=m+xs.length:=rfl;rw[hm1,hm2,hm3,hm4];have hcelllen:((r.2.1.drop (off*sz')).take (m*sz')++flat xs).length=(m+xs.length)*sz':=by
    rw[List.length_append,holen,dY hys,Nat.add_mul]
   rcases Nat.lt_or_ge (l.cap-off) (m+xs.length) with hgrow|hroom
   ·-- it moves
    have horun:(Builtin.firstCells sz' m (gt tmps x)).run C.P w.drew=.ok ⟨(((us.toList.drop l.base).take r.2.1.length).drop (off*sz')).take (m*sz')⟩ w.drew:=by
     rw[hu];rcases hacase with rfl|⟨rfl,_⟩
     ·have:=jU (C:=C) (w:=w.drew) (sz:=sz') (n:=m) (len:=m) (cap:=l.cap-off) (ws:=((us.toList.drop l.base).take r.2.1.length).drop (off*sz')) (a:=⟨l.block,l.base+off*sz',none⟩) rfl
       (by have:=hodl;rw[List.length_take]at this;omega) (fun i yy hi=>sj (cs:=r.2.1) (off:=off*sz') q3 i yy hi)
      exact this
     ·cases a with
      |none=>simp[Builtin.firstCells]
      |some a=>simp[Builtin.firstCells,loadCells,loadCellsFrom]
    rw[hu]at horun;have hrun:=jV (w:=w) (ty:=o.type) A (a:=a) (n:=m) (m:=xs.length) (cap:=l.cap-off) hgrow hyu horun hyrun2 hneed;have hge:=grownCap_ge w (m+xs.length) (l.cap-off) el;obtain⟨os,hos⟩:∃os,os=(((us.toList.drop l.base).take r.2.1.length).drop (off*sz')).take (m*sz'):=⟨_,rfl⟩
    rw[<-hos]at hrun hodv hodl;obtain⟨nu,hnu⟩:∃nu,nu=(⟨os⟩++⟨ws⟩++Builtin.zeroCells zv.cells (grownCap w (m+xs.length) (l.cap-off) el-(m+xs.length)):Array Value):=⟨_,rfl⟩
    rw[<-hnu]at hrun;have hnusz:nu.size=grownCap w (m+xs.length) (l.cap-off) el*sz':=by
     rw[hnu];simp only[Array.size_append,size_zeroCells,hzcells];have e1:(⟨os⟩:Array Value).size=os.length:=rfl;have e2:(⟨ws⟩:Array Value).size=ws.length:=rfl;rw[e1,e2,hodl,hwl,<-Nat.add_mul,<-Nat.add_mul];congr 1;omega
    have htake:nu.toList.take ((m+xs.length)*sz')=os++ws:=by
     rw[hnu];simp only[Array.toList_append];rw[List.take_left' (by rw[List.length_append,hodl,hwl,Nat.add_mul])]
    have exn:=g.at_ext (k:=k) (n:=gn+1) ⟨w.heap.size,0,grownCap w (m+xs.length) (l.cap-off) el,sz'⟩ hρnew;obtain⟨ex,s'⟩:=s.regen (w':=w.drew.alloc (.cells nu el)) (n':=gn+1) (l':=⟨w.heap.size,0,grownCap w (m+xs.length) (l.cap-off) el,sz'⟩)
     (o':=.row (gn+1) sz' (cn C.T el) ((r.2.1.drop (off*sz')).take (m*sz')++flat xs) (r.2.2-off*sz')) r1 r2 hl rfl hρnew
     (fun bb hb1 hb2=>heap_alloc_old w.drew _ bb hb2) (by simp) (.inr (Fv _))
     ⟨rfl,hp,nu,el,heap_alloc_new w.drew _,by simp[hnusz],by rw[hcelllen];exact Nat.mul_le_mul_right _ hge,
      by rw[List.drop_zero,hcelllen,htake];exact(hodv.append hyv).mono exn,hnew,
      fun oo vv q=>by
       have q:g.F w.heap.size oo=some vv:=q;exact absurd (s.frz_lt q) (Nat.lt_irrefl _),
      fun mm hmm=>by rw[Gh.at_other g _ (by omega)];exact q9 mm (by omega)⟩
     (fun ii vv q=>by
       have q:g.F w.heap.size ii=some vv:=q;exact absurd (s.frz_lt q) (Nat.lt_irrefl _)) rfl rfl rfl
    refine⟨_,_,_,.inl (lift _ _ (by rw[hu];exact hrun)),ex,s',?_,Low.set _ _ _⟩;have:=bu.row (g:=g.at k (gn+1) ⟨w.heap.size,0,grownCap w (m+xs.length) (l.cap-off) el,sz'⟩) (k:=k) (n:=gn+1) (sz:=sz') (off:=0) (len:=m+xs.length) (g.at_same _ _ _) rfl (by simpa using hge);simpa using this
   ·-- in its place
    rcases hacase with rfl|⟨q,hq2⟩
    ·have hone:=oF hyv hya;have hin:(off+(m+xs.length))*sz'<=l.cap*sz':=Nat.mul_le_mul_right _ (by omega);have hin2:(off+(m+xs.length))*sz'=(off+m)*sz'+xs.length*sz':=by rw[<-Nat.add_mul];congr 1;omega
     have hst:=fT (C:=C) (b:=l.block) (off:=l.base+(off+m)*sz') (t:=t') ws 0 w us q3 (by omega) hone;rw[Nat.add_zero]at hst;have haddr:(⟨l.block,l.base+off*sz',none⟩:Addr).add (m*sz')=⟨l.block,l.base+(off+m)*sz',none⟩:=by rw[iO];congr 1;omega
     rw[<-haddr]at hst;have hrun:=wm (w:=w) (ty:=o.type) A (cap:=l.cap-off) hroom hyu hyrun1 hst;have hbnd:l.base+(off+m)*sz'+ws.length<=us.toList.length:=by simp;omega
     have exn:=g.at_ext (k:=k) (n:=gn+1) ⟨l.block,l.base+off*sz',l.cap-off,sz'⟩ hρnew;obtain⟨ex,s'⟩:=s.regen (w':=setBlk w l.block (.cells ⟨setR (l.base+(off+m)*sz') ws us.toList⟩ t' (0,0))) (n':=gn+1) (l':=⟨l.block,l.base+off*sz',l.cap-off,sz'⟩)
      (o':=.row (gn+1) sz' (cn C.T el) ((r.2.1.drop (off*sz')).take (m*sz')++flat xs) (r.2.2-off*sz')) r1 r2 hl rfl hρnew
      (fun bb hb1 hb2=>jO hb1) (by rw[tb];exact Fv _) (.inl rfl)
      ⟨rfl,hp,_,t',eK hlt,by
        show l.base+off*sz'+(l.cap-off)*sz'<=(setR (l.base+(off+m)*sz') ws us.toList).length;rw[jq];have:off*sz'+(l.cap-off)*sz'=l.cap*sz':=by rw[<-Nat.add_mul];congr 1;omega
        simp;omega,
       by rw[hcelllen];exact Nat.mul_le_mul_right _ (by omega),by
        rw[hcelllen];have:((setR (l.base+(off+m)*sz') ws us.toList).drop (l.base+off*sz')).take ((m+xs.length)*sz')=((((us.toList.drop l.base).take r.2.1.length).drop (off*sz')).take (m*sz'))++ws:=by
         apply List.ext_getElem?;intro ii;rw[List.getElem?_take,List.getElem?_drop,nT _ _ _ _ hbnd,List.getElem?_append,hodl];have hmx:(m+xs.length)*sz'=m*sz'+xs.length*sz':=Nat.add_mul _ _ _;by_cases hi1:ii<m*sz'
         ·rw[wae (by omega),wad (by omega),wae hi1,List.getElem?_take,wae hi1,List.getElem?_drop,List.getElem?_take,wae (by omega),List.getElem?_drop,Nat.add_assoc]
         ·rw[wad hi1];by_cases hi2:ii<(m+xs.length)*sz'
          ·rw[wae hi2,wae (by omega)];congr 1;omega
          ·rw[wad hi2,List.getElem?_eq_none (by omega)]
        show aR _ _ (((setR (l.base+(off+m)*sz') ws us.toList).drop (l.base+off*sz')).take ((m+xs.length)*sz'));rw[this];exact(hodv.append hyv).mono exn,hnew,
       fun oo vv q=>by
        have q:g.F l.block oo=some vv:=q;have:=q8 oo vv q;show oo<l.base+off*sz'+(r.2.2-off*sz');omega,
       fun mm hmm=>by rw[Gh.at_other g _ (by omega)];exact q9 mm (by omega)⟩
      (fun ii vv q=>by
       have q:g.F l.block ii=some vv:=q;have hlt2:=q8 ii vv q;rw[cell_of_row _ _ _ _ t' (0,0) (eK hlt)];have:=s.frz _ _ _ q;rw[cell_of_row _ _ _ us t' (0,0) q3]at this;have e2:(⟨setR (l.base+(off+m)*sz') ws us.toList⟩:Array Value)[ii]?=(setR (l.base+(off+m)*sz') ws us.toList)[ii]?:=by simp
       rw[e2,nT _ _ _ _ hbnd,wad (by omega)];simpa using this) rfl rfl rfl
     refine⟨_,_,_,.inl (lift _ _ (by rw[hu];exact hrun)),ex,s',?_,Low.set _ _ _⟩;have:=bu.row (g:=g.at k (gn+1) ⟨l.block,l.base+off*sz',l.cap-off,sz'⟩) (k:=k) (n:=gn+1) (sz:=sz') (off:=0) (len:=m+xs.length) (g.at_same _ _ _) rfl (by simpa using hroom);simpa using this
    ·omega
end
section
variable {C:Cx}{g:Gh}{U:Nat->Option (List AV)}{h h':AH}{w:World}{tm:Tm}{tmps:Array Value}{v:AV}
theorem Tq (s:Sim C g U h w){k gn sz off:Nat}{agg:Bool}{cs:List AV}{fz:Nat}{l:Loc}(hl:g.ρ k gn=some l)(hr:h.get k=some (.row gn sz agg cs fz)){vs:List AV}{ws:List Value}
  (hfz:fz<=off) (hle:off+vs.length<=cs.length) (hv:aR g vs ws) (ha:aO vs=true) :
  ∃w',(storeCells ⟨l.block,l.base+off,none⟩ ws).run C.P w=.ok () w'/\Sim C g U (h.set k (.row gn sz agg (setR off vs cs) fz)) w':=by
 refine xa s hr hl ?_ hv ha;show cond (and (Nat.beq gn gn) (and (Nat.ble fz off) (Nat.ble (Nat.add off (len vs)) (len cs)))) _ _=_;rw[Nat.beq_refl,Nat.ble_eq_true_of_le hfz,bH,bH,show Nat.ble (Nat.add off vs.length) cs.length=true from Nat.ble_eq_true_of_le hle];rfl
theorem Ld {es:List AV}{sz k:Nat}(hs:∀e∈es,e.cells.length=sz):flat (es.take k)=(flat es).take (k*sz):=by
 have:=vE (l:=0) (k:=k) hs (Nat.zero_le _);simpa using this
theorem Xb (s:Sim C g U h w)(ht:eQ g tm tmps){o:Oper}{c:Call}{x y:Operand}{ax ay:AX}{el:TypeId}{sz:Nat}(ho:o.op=.call c)(hc:c.callee=.builtin .copy)
  (ha:c.args=#[x,y]) (h0:kC C.T c.argTypes 0=some el) (hsz:szT C.T el=some sz) (hx:cX x=some ax) (hy:cX y=some ay)
  (e:pJ (TI h sz (ev ax tm) (ev ay tm))=.val v h'):im C g U h ((execOp (gt tmps) o).run C.P w) v h':=by
 have e:=nX e;obtain⟨xs,hxs,e⟩:=ah e;obtain⟨hlie,e⟩:=aH e;obtain⟨t,ht0,hd⟩:=ah h0;obtain⟨d,hd,hd'⟩:=ah hd;cases d<;>first|(cases hd';done)|skip
 cases hd';have ht0':c.argTypes[0]?=some t:=by simpa using ht0
 have rx:=bN ht hx;have ry:=bN ht hy;have lift:∀u w',(Builtin.copy_ c.argTypes o.type #[gt tmps x,gt tmps y]).run C.P w=.ok u w'->(execOp (gt tmps) o).run C.P w=.ok (.value u) w':=by
  intro u w' hq;simp[execOp,ho,resolve,hc,ha,invoke,builtin,hq]
 obtain⟨b,cap',ws,hyu,hycap,hyv,hya,hys,hyrun⟩:=vL s ry hxs;generalize ev ax tm=a at rx e;cases a<;>first|(cases e;done)|skip
 case nl=>
  cases e;have hf:=hyrun w 0 (fun _ _ _ _ q=>q) (Nat.zero_le _);refine aY s (lift _ _ ?_) (.int .i64 0);have hmin:Nat.min xs.length 0=0:=Nat.min_zero _;simp[Builtin.copy_,ht0',bh hd,rx.nils_inv,hyu,Builtin.lenOf,bU hsz,goInt];rw[hyu]at hf;simp[hf]
 case row k gn sz' off m=>
  obtain⟨hc1,e⟩:=aH (c:=Nat.beq sz' sz) e;have hc1:=beq_eq hc1;subst hc1;obtain⟨r,hr,e⟩:=ah e;obtain⟨hcc,e⟩:=aH e;cases e;obtain⟨k1,k2⟩:=dd hcc;have k1:r.2.2<=off*sz':=eG k1;have k2:=eG k2;rw[bH]at k2;have k2:(off+m)*sz'<=r.2.1.length:=k2;obtain⟨l,a,hl,hs,hle,hu,hacase⟩:=rx.row_inv;obtain⟨r1,r2,r3,r4⟩:=ma s hl hr;rw[bH,rM,lz];have hm1:Nat.mul off sz'=off*sz':=rfl;rw[hm1];have hf:=hyrun w (min xs.length m) (fun _ _ _ _ q=>q) (Nat.min_le_left _ _);have hft:=Ld (k:=min xs.length m) hys;have hvt:aR g (flat (xs.take (min xs.length m))) (ws.take (min xs.length m*sz')):=by rw[hft];exact hyv.take _
  have hlen:(flat (xs.take (min xs.length m))).length=min xs.length m*sz':=by
   rw[dY (fun e he=>hys e (List.mem_of_mem_take he)),List.length_take];congr 1;omega
  have hle2:min xs.length m*sz'<=m*sz':=Nat.mul_le_mul_right _ (Nat.min_le_right _ _);have hadd:(off+m)*sz'=off*sz'+m*sz':=Nat.add_mul _ _ _;obtain⟨w',hst,s'⟩:=Tq s hl r1 (vs:=flat (xs.take (min xs.length m))) (ws:=ws.take (min xs.length m*sz')) k1 (by rw[hlen];omega) hvt (by rw[hft];exact fw hya _);refine⟨g,w',.int .i64 ((min xs.length m:Nat):Int),.inl (lift _ _ ?_),.refl g,s',.int _ _,Low.set _ _ _⟩;have hmin:Nat.min xs.length m=min xs.length m:=rfl;rw[hyu]at hf;rcases hacase with rfl|⟨rfl,_⟩
  ·simp[Builtin.copy_,ht0',bh hd,hu,hyu,Builtin.lenOf,bU hsz,hmin,goInt,hf,hst]
  ·simp only[Nat.min_zero,Nat.zero_mul,List.take_zero]at hst hf;have hw':w'=w:=by simp[storeCells]at hst;exact hst.symm
   subst hw';have hmin0:Nat.min xs.length 0=0:=Nat.min_zero _;cases a with
   |none=>simp[Builtin.copy_,ht0',bh hd,hu,hyu,Builtin.lenOf,bU hsz,hmin0,goInt,hf]
   |some a=>simp[Builtin.copy_,ht0',bh hd,hu,hyu,Builtin.lenOf,bU hsz,hmin0,goInt,hf,storeCells]
theorem NN (s:Sim C g U h w)(ht:eQ g tm tmps){o:Oper}{c:Call}{x:Operand}{ax:AX}{el:TypeId}{sz:Nat}{z:AV}(ho:o.op=.call c)(hc:c.callee=.builtin .clear)
  (ha:c.args=#[x]) (h0:kC C.T c.argTypes 0=some el) (hsz:szT C.T el=some sz) (hz:jS C.T el=some z) (hx:cX x=some ax)
  (e:okH (IH (ev ax tm) h sz z.cells)=.val v h'):im C g U h ((execOp (gt tmps) o).run C.P w) v h':=by
 obtain⟨e',rfl⟩:=zo e;clear e;obtain⟨t,ht0,hd⟩:=ah h0;obtain⟨d,hd,hd'⟩:=ah hd;cases d<;>first|(cases hd';done)|skip
 cases hd';have ht0':c.argTypes[0]?=some t:=by simpa using ht0
 obtain⟨i,zv,hi,hzv,hzr,hzl,hzc,_⟩:=iM g hz;obtain⟨i2,d2,hi2,hsz2,_⟩:=lY hsz;rw[hi]at hi2;cases hi2;have hzcv:=hzr.cells (lJ hzc);have rx:=bN ht hx;have lift:∀u w',(Builtin.clear_ c.argTypes o.type #[gt tmps x]).run C.P w=.ok u w'->(execOp (gt tmps) o).run C.P w=.ok (.value u) w':=by
  intro u w' hq;simp[execOp,ho,resolve,hc,ha,invoke,builtin,hq]
 generalize ev ax tm=a at rx e';cases a<;>first|(cases e';done)|skip
 case nl=>
  cases e';refine aY s (lift (.tuple #[]) _ ?_) (.tup .nil);simp[Builtin.clear_,ht0',bh hd,rx.nils_inv]
 case row k gn sz' off m=>
  obtain⟨hc1,e⟩:=aH (c:=Nat.beq sz' sz) e';have hc1:=beq_eq hc1;subst hc1;obtain⟨r,hr,e⟩:=ah e;obtain⟨hcc,e⟩:=aH e;cases e;obtain⟨_,hcc⟩:=dd hcc;obtain⟨k1,k2⟩:=dd hcc;have k1:r.2.2<=off*sz':=eG k1;have k2:=eG k2;rw[bH]at k2;have k2:(off+m)*sz'<=r.2.1.length:=k2;obtain⟨l,a,hl,hs,hle,hu,hacase⟩:=rx.row_inv;obtain⟨r1,r2,r3,r4⟩:=ma s hl hr;have hm1:Nat.mul off sz'=off*sz':=rfl;rw[hm1];have hadd:(off+m)*sz'=off*sz'+m*sz':=Nat.add_mul _ _ _;have hrl:(pI m z.cells).length=m*sz':=by rw[js,hzl,hsz2]
  obtain⟨w',hst,s'⟩:=Tq s hl r1 (vs:=pI m z.cells) (ws:=(Builtin.zeroCells zv.cells m).toList) k1 (by rw[hrl];omega) (se hzcv m) (iT _ hzc m);refine⟨g,w',.tuple #[],.inl (lift _ _ ?_),.refl g,s',.tup .nil,Low.set _ _ _⟩;cases m with
  |zero=>
   have hw':w'=w:=by
    have:(Builtin.zeroCells zv.cells 0).toList=[]:=by rw[yG,iA _ (Nat.zero_mul _)]
    rw[this]at hst;simp[storeCells]at hst;exact hst.symm
   subst hw';cases a with
   |none=>simp[Builtin.clear_,ht0',bh hd,hu]
   |some a=>simp[Builtin.clear_,ht0',bh hd,hu]
  |succ m=>
   rcases hacase with rfl|⟨q,_⟩
   ·simp[Builtin.clear_,ht0',bh hd,hu,dt hi hzv,hst]
   ·omega
end
section
variable {C:Cx}{g:Gh}{U:Nat->Option (List AV)}{h h':AH}{w:World}{tm:Tm}{tmps:Array Value}{v:AV}
theorem qP {l:List AV}{k:AV->OpR}(e:Fw l OpR.bad k=.val v h'):∃x,l=[x]/\k x=.val v h':=by
 cases l with
 |nil=>cases e
 |cons x l=>cases l with
  |nil=>exact⟨x,rfl,e⟩
  |cons y l=>cases e
theorem Cp {l:List AV}{k:AV->AV->OpR}(e:Uu l OpR.bad k=.val v h'):∃x y,l=[x,y]/\k x y=.val v h':=by
 cases l with
 |nil=>cases e
 |cons x l=>
  obtain⟨y,rfl,e⟩:=qP (l:=l) e;exact⟨x,y,rfl,e⟩
theorem IW {a:Array Operand}{la:List AX}{x:AV}(hc:cXs a=some la)(e:evs la tm=[x]):∃y ay,a=#[y]/\cX y=some ay/\x=ev ay tm:=by
 cases la with
 |nil=>cases e
 |cons ay l=>
  cases l with
  |cons z l=>cases e
  |nil=>
   rw[mf,zK]at e;cases e;obtain⟨a⟩:=a;cases a with
   |nil=>cases hc
   |cons y a=>
    obtain⟨b,r,hb,hr,q⟩:=bT (show jx cX (y::a)=_ from hc);cases q;cases a with
    |nil=>exact⟨y,ay,rfl,hb,rfl⟩
    |cons z a=>obtain⟨b,r,hb,hr,q⟩:=bT hr;cases q
theorem IV {a:Array Operand}{la:List AX}{x x':AV}(hc:cXs a=some la)(e:evs la tm=[x,x']):
  ∃y z ay az,a=#[y,z]/\cX y=some ay/\cX z=some az/\x=ev ay tm/\x'=ev az tm:=by
 cases la with
 |nil=>cases e
 |cons ay l=>
  cases l with
  |nil=>cases e
  |cons az l=>
   cases l with
   |cons z l=>cases e
   |nil=>
    rw[mf,mf,zK]at e;cases e;obtain⟨a⟩:=a;cases a with
    |nil=>cases hc
    |cons y a=>
     obtain⟨b,r,hb,hr,q⟩:=bT (show jx cX (y::a)=_ from hc);cases q;cases a with
     |nil=>cases hr
     |cons z a=>
      obtain⟨b,r,hb',hr,q⟩:=bT hr;cases q;cases a with
      |nil=>exact⟨y,z,ay,az,rfl,hb,hb',rfl,rfl⟩
      |cons z a=>obtain⟨b,r,hb,hr,q⟩:=bT hr;cases q
theorem ND {o:Oper}{t:TypeId}{x:Operand}{lo hi mx:Option Operand}{ax:AX}{alo ahi amx:Option AX}{d:TypeDesc}{aop:AOp}(s:Sim C g U h w)(ht:eQ g tm tmps)(ho:o.op=.slice t x lo hi mx)
  (hx:cX x=some ax) (hlo:nJ lo=some alo) (hhi:nJ hi=some ahi) (hmx:nJ mx=some amx) (hd:und C.T t=some d) (hc:Cb d C.T ax alo ahi amx=some aop) (e:evOp aop tm h=.val v h') :
  im C g U h ((execOp (gt tmps) o).run C.P w) v h':=by
 cases d with
 |string=>
  cases amx with
  |some m=>cases hc
  |none=>
   cases hc;have e:okV (ic (ev ax tm) tm alo ahi) h=.val v h':=e;cases mx with
   |some m=>
    obtain⟨am,_,q⟩:=ah (show aq (cX m) (fun a=>some (some a))=_ from hmx);cases q
   |none=>exact Bj s ht ho hd hx hlo hhi e
 |slice el=>
  obtain⟨n,hn,hc⟩:=ah (show aq (szT C.T el) (fun n=>bif Nat.blt 0 n then some (AOp.slice false n ax alo ahi amx) else none)=_ from hc);obtain⟨hp,hc⟩:=aH hc;cases hc;have hp:0<n:=jL hp;have e:pJ (ix h n (ev ax tm) tm alo ahi amx)=.val v h':=e;have e:=nX e;obtain⟨m,e1,e⟩:=ah (show aq (yt (ev ax tm)) _=_ from e);obtain⟨hb,e2,e⟩:=ah e;obtain⟨l,e3,e⟩:=ah e;cases mx with
  |none=>
   cases hmx;exact yP s ht ho hd hn hx hlo hhi e1 e2 e3 e
  |some m'=>
   obtain⟨am,hm,q⟩:=ah (show aq (cX m') (fun a=>some (some a))=_ from hmx);cases q;obtain⟨yy,hy,e⟩:=ah (show aq ahi _=_ from e);obtain⟨m2,e4,e⟩:=ah e;obtain⟨hm2,e⟩:=aH e;have hm2:=beq_eq hm2;subst hm2;exact wv s ht ho hd hn hp hx hlo hhi hm hy e1 e2 e3 e4 e
 |_=>cases hc
theorem DN {o:Oper}{c:Call}{b:Builtin}{args:List AX}{aop:AOp}(s:Sim C g U h w)(ht:eQ g tm tmps)(ho:o.op=.call c)(hb:c.callee=.builtin b)(ha:cXs c.args=some args)
  (hc:ru b C.T c.argTypes args=some aop) (e:evOp aop tm h=.val v h'):im C g U h ((execOp (gt tmps) o).run C.P w) v h':=by
 cases b with
 |len=>
  obtain⟨t,h1,hc⟩:=ah (show aq c.argTypes.toList[0]? _=_ from hc);obtain⟨d,h2,hc⟩:=ah hc;obtain⟨k,h3,hc⟩:=ah hc;cases hc;obtain⟨x,h4,e⟩:=qP (show Fw (evs args tm) OpR.bad _=_ from e);obtain⟨y,ay,h5,h6,rfl⟩:=IW ha h4;exact ady s ht ho hb h5 h1 h2 h3 h6 e
 |append=>
  obtain⟨el,h1,hc⟩:=ah (show aq (kC C.T c.argTypes 0) _=_ from hc);obtain⟨el',h2,hc⟩:=ah hc;obtain⟨n,h3,hc⟩:=ah hc;obtain⟨z,h4,hc⟩:=ah hc;obtain⟨i,h5,hc⟩:=ah hc;obtain⟨hp,hc⟩:=aH hc;cases hc;obtain⟨x,x',h6,e⟩:=Cp (show Uu (evs args tm) OpR.bad _=_ from e);obtain⟨y,y',ay,ay',h7,h8,h9,rfl,rfl⟩:=IV ha h6;exact Kt s ht ho hb h7 h1 h2 h3 h4 h5 (jL hp) h8 h9 e
 |copy=>
  obtain⟨el,h1,hc⟩:=ah (show aq (kC C.T c.argTypes 0) _=_ from hc);obtain⟨el',h2,hc⟩:=ah hc;obtain⟨n,h3,hc⟩:=ah hc;obtain⟨hp,hc⟩:=aH hc;cases hc;obtain⟨x,x',h6,e⟩:=Cp (show Uu (evs args tm) OpR.bad _=_ from e);obtain⟨y,y',ay,ay',h7,h8,h9,rfl,rfl⟩:=IV ha h6;exact Xb s ht ho hb h7 h1 h3 h8 h9 e
 |clear=>
  obtain⟨el,h1,hc⟩:=ah (show aq (kC C.T c.argTypes 0) _=_ from hc);obtain⟨n,h3,hc⟩:=ah hc;obtain⟨z,h4,hc⟩:=ah hc;obtain⟨hp,hc⟩:=aH hc;cases hc;obtain⟨x,h6,e⟩:=qP (show Fw (evs args tm) OpR.bad _=_ from e);obtain⟨y,ay,h7,h8,rfl⟩:=IW ha h6;exact NN s ht ho hb h7 h1 h3 h4 h8 e
 |max=>cases hc;exact adw s ht ho hb ha e
 |min=>cases hc;exact adv s ht ho hb ha e
 |recover=>cases hc;cases e
 |_=>cases hc
theorem adr {o:Oper}{aop:AOp}(s:Sim C g U h w)(ht:eQ g tm tmps)(hc:cOp o.op C.P C.T C.kw=some aop)(e:evOp aop tm h=.val v h'):
  im C g U h ((execOp (gt tmps) o).run C.P w) v h':=by
 cases ho:o.op with
 |move x=>
  rw[ho]at hc;obtain⟨ax,h1,hc⟩:=ah (show aq (cX x) _=_ from hc);cases hc;cases e;exact abm s ht (.inl ho) h1
 |assign x=>
  rw[ho]at hc;obtain⟨ax,h1,hc⟩:=ah (show aq (cX x) _=_ from hc);cases hc;cases e;exact abm s ht (.inr ho) h1
 |pick x y z=>
  rw[ho]at hc;obtain⟨ax,h1,hc⟩:=ah (show aq (cX x) _=_ from hc);obtain⟨ay,h2,hc⟩:=ah hc;obtain⟨az,h3,hc⟩:=ah hc;cases hc;exact WT s ht ho h1 h2 h3 e
 |alloc t=>
  rw[ho]at hc;obtain⟨z,h1,hc⟩:=ah (show aq (jS C.T t) _=_ from hc);cases hc;cases e;exact adt s ho h1
 |box t x=>
  rw[ho]at hc;obtain⟨n,h1,hc⟩:=ah (show aq (szT C.T t) _=_ from hc);obtain⟨ax,h2,hc⟩:=ah hc;cases hc;exact adz s ht ho h2 e
 |build t ps=>rw[ho]at hc;exact NP s ht ho hc e
 |buildSlice t n ps=>rw[ho]at hc;exact adx s ht ho hc e
 |load t x=>
  rw[ho]at hc;obtain⟨n,h1,hc⟩:=ah (show aq (szT C.T t) _=_ from hc);obtain⟨ax,h2,hc⟩:=ah hc;obtain⟨_,hc⟩:=aH hc;cases hc;exact WY s ht ho h1 h2 e
 |store t x y=>
  rw[ho]at hc;obtain⟨n,h1,hc⟩:=ah (show aq (szT C.T t) _=_ from hc);obtain⟨ax,h2,hc⟩:=ah hc;obtain⟨ay,h3,hc⟩:=ah hc;cases hc;exact NC s ht ho h1 h2 h3 e
 |nilCheck x=>
  rw[ho]at hc;obtain⟨ax,h1,hc⟩:=ah (show aq (cX x) _=_ from hc);cases hc;exact Ki s ht ho h1 e
 |binOp op t x y t'=>
  rw[ho]at hc;obtain⟨k,h1,hc⟩:=ah (show aq (eqK C.P C.T t (isC x||isC y)) _=_ from hc);obtain⟨ax,h2,hc⟩:=ah hc;obtain⟨ay,h3,hc⟩:=ah hc;cases hc;exact adA s ht ho h1 h2 h3 e
 |unOp op t x=>
  rw[ho]at hc;obtain⟨ax,h1,hc⟩:=ah (show aq (cX x) _=_ from hc);cases hc;exact op_un s ht ho h1 e
 |convert t t' x=>
  rw[ho]at hc;obtain⟨d,h1,hc⟩:=ah (show aq (und C.T t) _=_ from hc);obtain⟨d',h2,hc⟩:=ah hc;obtain⟨ax,h3,hc⟩:=ah hc;exact Xc s ht ho h1 h2 h3 hc e
 |makeInterface t x=>
  rw[ho]at hc;obtain⟨d,h1,hc⟩:=ah (show aq (und C.T t) _=_ from hc);obtain⟨h2,hc⟩:=fZ hc;obtain⟨ax,h3,hc⟩:=ah hc;cases hc;cases e;exact DJ s ht ho h1 h2 h3
 |makeFunc f a b=>
  rw[ho]at hc;cases f with
  |func f=>
   obtain⟨la,h1,hc⟩:=ah (show aq (cXs a) _=_ from hc);obtain⟨lb,h2,hc⟩:=ah hc;cases hc;cases e;exact WV s ht ho h1 h2
  |_=>cases hc
 |makeMap t r=>
  rw[ho]at hc;cases r with
  |none=>cases hc;cases e;exact NG s ho
  |some r=>cases hc
 |makeSlice t l c=>
  rw[ho]at hc;obtain⟨el,h1,hc⟩:=ah (show aq (rG C.T t) _=_ from hc);obtain⟨n,h2,hc⟩:=ah hc;obtain⟨z,h3,hc⟩:=ah hc;obtain⟨i,h4,hc⟩:=ah hc;obtain⟨al,h5,hc⟩:=ah hc;obtain⟨ac,h6,hc⟩:=ah hc;obtain⟨hp,hc⟩:=aH hc;cases hc;exact DH s ht ho h1 h2 h3 h4 h5 h6 (jL hp) e
 |slice t x lo hi mx=>
  rw[ho]at hc;obtain⟨ax,h1,hc⟩:=ah (show aq (cX x) _=_ from hc);obtain⟨alo,h2,hc⟩:=ah hc;obtain⟨ahi,h3,hc⟩:=ah hc;obtain⟨amx,h4,hc⟩:=ah hc;obtain⟨d,h5,hc⟩:=ah hc;exact ND s ht ho h1 h2 h3 h4 h5 hc e
 |fieldAddr t x f=>
  rw[ho]at hc;obtain⟨p,h1,hc⟩:=ah (show aq (mU C.T t f) _=_ from hc);obtain⟨ax,h2,hc⟩:=ah hc;cases hc;exact NM s ht ho h1 h2 e
 |field t x f=>
  rw[ho]at hc;obtain⟨p,h1,hc⟩:=ah (show aq (mU C.T t f) _=_ from hc);obtain⟨ax,h2,hc⟩:=ah hc;cases hc;exact NL s ht ho h1 h2 e
 |indexAddr t x i=>
  rw[ho]at hc;obtain⟨ax,h1,hc⟩:=ah (show aq (cX x) _=_ from hc);obtain⟨ai,h2,hc⟩:=ah hc;obtain⟨d,h3,hc⟩:=ah hc;cases d with
  |slice el=>
   obtain⟨n,h4,hc⟩:=ah (show aq (szT C.T el) _=_ from hc);cases hc;exact NK s ht ho h3 h4 h1 h2 e
  |array len el=>
   obtain⟨n,h4,hc⟩:=ah (show aq (szT C.T el) _=_ from hc);cases hc;exact Km s ht ho h3 h4 h1 h2 e
  |_=>cases hc
 |index t x i=>
  rw[ho]at hc;obtain⟨ax,h1,hc⟩:=ah (show aq (cX x) _=_ from hc);obtain⟨ai,h2,hc⟩:=ah hc;obtain⟨d,h3,hc⟩:=ah hc;cases d with
  |string=>cases hc;exact Kf s ht ho h3 h1 h2 e
  |array len el=>
   obtain⟨n,h4,hc⟩:=ah (show aq (szT C.T el) _=_ from hc);cases hc;exact Ks s ht ho h3 h4 h1 h2 e
  |_=>cases hc
 |lookup t x i ok=>
  rw[ho]at hc;obtain⟨p,h1,hc⟩:=ah (show aq (kZ C.T t) _=_ from hc);obtain⟨z,h2,hc⟩:=ah hc;obtain⟨ax,h3,hc⟩:=ah hc;obtain⟨ai,h4,hc⟩:=ah hc;cases hc;exact Kl s ht ho h1 h2 h3 h4 e
 |mapUpdate t m k x=>
  rw[ho]at hc;obtain⟨p,h1,hc⟩:=ah (show aq (kZ C.T t) _=_ from hc);obtain⟨am,h2,hc⟩:=ah hc;obtain⟨ak,h3,hc⟩:=ah hc;obtain⟨ax,h4,hc⟩:=ah hc;cases hc;exact NI s ht ho h1 h2 h3 h4 e
 |typeAssert x t t' ok=>
  rw[ho]at hc;obtain⟨d,h1,hc⟩:=ah (show aq (und C.T t') _=_ from hc);obtain⟨h2,hc⟩:=fZ hc;obtain⟨ax,h3,hc⟩:=ah hc;obtain⟨z,h4,hc⟩:=ah hc;cases hc;exact Kr s ht ho h1 h2 h3 h4 e
 |extract x i=>
  rw[ho]at hc;obtain⟨ax,h1,hc⟩:=ah (show aq (cX x) _=_ from hc);cases hc;exact DM s ht ho h1 e
 |call c=>
  rw[ho]at hc;obtain⟨args,h1,hc⟩:=ah (show aq (cXs c.args) _=_ from hc);cases hcc:c.callee with
  |value f=>
   rw[hcc]at hc;obtain⟨af,h2,hc⟩:=ah (show aq (cX f) _=_ from hc);cases hc;cases e
  |invoke a b=>rw[hcc]at hc;cases hc
  |builtin b=>rw[hcc]at hc;exact DN s ht ho hcc h1 hc e
 |defer c=>
  rw[ho]at hc;obtain⟨args,h1,hc⟩:=ah (show aq (cXs c.args) _=_ from hc);cases hcc:c.callee with
  |value f=>
   rw[hcc]at hc;obtain⟨af,h2,hc⟩:=ah (show aq (cX f) _=_ from hc);cases hc;cases e
  |invoke a b=>rw[hcc]at hc;cases hc
  |builtin b=>rw[hcc]at hc;cases hc
 |panic x=>
  rw[ho]at hc;obtain⟨ax,h1,hc⟩:=ah (show aq (cX x) _=_ from hc);cases hc;have e:jC (ev ax tm)=.val v h':=e;generalize ev ax tm=y at e;cases y<;>cases e
 |_=>rw[ho]at hc;cases hc
end
