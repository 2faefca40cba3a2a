/- SolverFinals: shifting, by the program (no condition). -/
import Derived.Test.YtnacljdablhbgaaGreatGk
namespace Go.Proofs.YtnacljdablhbgaaGreat
open Go.AG
attribute [local go_sem] dR eZ fW fX fe dU dk cI iI dT cJ di iK
structure KP (K:aG):Prop where
 r87:∀t,Lq t->∀h,K (.fn 87 [] []) [enc t] .no h=some (.ret (enc (.mk t.kind t.i t.name t.L [])),.no,h)
 r128:∀(k j:Int) h,K (.fn 128 [] []) [wt k,wt j] .no h=some (.ret (wt (aV k j)),.no,h)
theorem KP.c87 {K:aG}(kp:KP K)(m:Nat)(t:T)(hq:Lq t)(h:AH):cS K m (.fn 87 [] []) [enc t] .no h=some (.ret (enc (.mk t.kind t.i t.name t.L [])),.no,h):=
 dP (ae (aP _ _) (aB _)) (kp.r87 t hq h) (cC (by rw[aA];intro l e;cases e) (aP _ _)) m
theorem KP.c128 {K:aG}(kp:KP K)(m:Nat)(k j:Int)(h:AH):cS K m (.fn 128 [] []) [wt k,wt j] .no h=some (.ret (wt (aV k j)),.no,h):=
 dP (ae (ba _ _ _) (ae (ba _ _ _) (aB _))) (kp.r128 k j h) rfl m
mutual
def mpT (rep:T->Int->T):T->Int->T
 |.mk k i nm ls ks,d=>if k=0 then rep (.mk k i nm ls ks) d else .mk k i nm ls (BR rep k 0 ks d)
def BR (rep:T->Int->T)(k:Int):Nat->List T->Int->List T
 |_,[],_=>[]
 |j,t::l,d=>mpT rep t (d+aV k j)::BR rep k (j+1) l d
end
def jT (rep:T->Int->T)(t:T)(d:Int):Option (T×Bool×Int):=if t.kind=0 then some (rep t d,true,0) else some (.mk t.kind t.i t.name t.L [],false,0)
mutual
theorem Hj (rep:T->Int->T):∀(t:T) (d:Int),bld (jT rep) t d=some (mpT rep t d,0)
 |.mk k i nm ls ks,d=>by
  by_cases hk:k=0
  ·have hs:jT rep (.mk k i nm ls ks) d=some (rep (.mk k i nm ls ks) d,true,0):=by unfold jT;rw[wae (show(T.mk k i nm ls ks).kind=0 from hk)]
   rw[bld,mpT,hs,wae hk]
  ·have hs:jT rep (.mk k i nm ls ks) d=some (.mk k i nm ls [],false,0):=by unfold jT;rw[wad (show ¬(T.mk k i nm ls ks).kind=0 from hk)];rfl
   rw[bld,mpT,hs,wad hk];simp only;rw[IY rep k 0 ks d];simp[T.kind,T.i,T.name,T.L]
theorem IY (rep:T->Int->T)(k:Int):∀(j:Nat) (ks:List T) (d:Int),blds (jT rep) k j ks d=some (BR rep k j ks d,0)
 |_,[],_=>by rw[blds,BR]
 |j,t::l,d=>by
  rw[blds,BR,Hj rep t,IY rep k (j+1) l d];simp
end
theorem Uo (rep:T->Int->T):W0 (jT rep):=by
 intro t d o b wg e;unfold jT at e;split at e<;>cases e<;>exact Int.le_refl 0
section
variable {K:aG}
theorem c85 (hK:bW K)(m:Nat)(F:Nat)(cap:List AV)(hc:AV.ip cap=cap)(h:AH):
  ∃h' x,cS K (m+1) (.fn 85 [] []) [.fn F [] cap] .no h=some (.ret (.agg [.fn 127 [] [.ptr x 0 0]]),.no,h')/\HK h h'/\h'.get x=some (.box [.fn F [] cap])/\h.z<=x/\x<h'.z:=by
 have can:∀h,eT (.fn F [] cap) h=(.fn F [] cap,h):=fun h=>by rw[jD,hc];simp[AV.ip]
 obtain⟨v,h',e,x,rfl,q1,q2,q3,q4⟩:=cm (m:=m) (h:=h) (c:=[]) (P:=fun v h'=>∃x,v=.agg [.fn 127 [] [.ptr x 0 0]]/\HK h h'/\h'.get x=some (.box [.fn F [] cap])/\h.z<=x/\x<h'.z) hK cf85 (ae (can _) (aB _)) (by
  try simp only[wab]
  have ebx:gU h 1 (.fn F [] cap)=.val (.ptr h.z 0 0) (h.new (.box [.fn F [] cap])):=jE rfl;have hbd:∀H:AH,cP H [.nilf] [(0,1,.fn 127 [] [.ptr h.z 0 0])]=.val (.agg [.fn 127 [] [.ptr h.z 0 0]]) H:=fun H=>rfl
  unfold b85;simp only[go_sem,simprocAttr,ebx,ZI,hbd];refine⟨rfl,rfl,.inr rfl,[.agg [.fn 127 [] [.ptr h.z 0 0]]],by simp only[go_sem,simprocAttr,r85],.agg [.fn 127 [] [.ptr h.z 0 0]],_,cC (by intro l e;cases e) (IS 127 [.ptr h.z 0 0] (by simp[AV.ip,AV.norm]) _),h.z,rfl,((HK.new _ _).add _).set _ (by rw[ci];omega),?_,Fv _,by simp only[co,ci];omega⟩;rw[an (by rw[ci];omega),aJ (by rw[ci];omega),aE])
 exact⟨h',x,e,q1,q2,q3,q4⟩
theorem c127 (hK:bW K)(kp:KP K)(m x F:Nat)(cap:List AV)(rep:T->Int->T)(t:T)(d:Int)(h:AH)(hx:h.get x=some (.box [.fn F [] cap]))(hxl:x<h.z)(hq:Lq t)
  (hrep:t.kind=0->∀H,HK h H->∃H',cS K m (.fn F [] cap) [enc t,wt d] .no H=some (.ret (enc (rep t d)),.no,H')/\HK H H') :
  ∃o h',cS K (m+1) (.fn 127 [] [.ptr x 0 0]) [enc t,wt d] .no h=some (o,.no,h')/\HK h h'/\UB (fun _ _=>True) (fun _=>False) .nilf 0 (jT rep t d) o h':=by
 have key:∃v h',cS K (m+1) (.fn 127 [] [.ptr x 0 0]) [enc t,wt d] .no h=some (.ret v,.no,h')/\HK h h'/\∃r b,v=.tup [enc r,.bool b]/\jT rep t d=some (r,b,0):=by
  refine cm hK cf127 (ae (aP _ _) (ae (ba _ _ _) (aB _))) ?_;have J0:=kS.init t h;obtain⟨H,hH⟩:∃H:AH,H=((h.new (.box (au t))).new (.box [wt 0,wt 0,.str (bs []),.nl,.nl])):=⟨_,rfl⟩
  rw[<-hH]at J0;have b6:=J0.b6;have b10:=J0.b10;have nx:=J0.nx;have k0:=J0.kw;have x0:=(k0.kw x hxl).trans hx;unfold au at hH b6;have nne:¬h.z=h.z+1:=by omega
  have c87:=fun H=>kp.c87 m t hq H
  by_cases hk:t.kind=0
  ·have hk':decide (t.kind=0)=true:=HE hk;obtain⟨H2,e2,k2⟩:=hrep hk H k0;have b102:=(k2.kw (h.z+1) (by omega)).trans b10;have hs2:=aQ b102 (rep t d);rw[aA t]at e2 ⊢;unfold ae3;simp only[go_sem,simprocAttr];rw[<-hH];clear hH;simp only[go_sem,simprocAttr,Gz,ci,b6,hk',x0,e2,hs2];refine⟨rfl,rfl,.inr rfl,[.agg (au (rep t d)),.bool true],by simp only[go_sem,simprocAttr,aeD,au],_,_,bG (ae (by rw[<-cN];exact aP _ _) (ae (jd _ _) (aB _))),(k0.trans k2).set _ (by omega),_,_,rfl,?_⟩;unfold jT;rw[wae hk]
  ·have hk':decide (t.kind=0)=false:=HD hk;have hs2:=aQ b10 (.mk t.kind t.i t.name t.L []);rw[aA t]at c87 ⊢;unfold ae3;simp only[go_sem,simprocAttr];rw[<-hH];clear hH;simp only[go_sem,simprocAttr,Gz,ci,b6,hk',Sb,c87,hs2];refine⟨rfl,rfl,.inr rfl,[.agg (au (.mk t.kind t.i t.name t.L [])),.bool false],by simp only[go_sem,simprocAttr,aeD,au],_,_,bG (ae (by rw[<-cN];exact aP _ _) (ae (jd _ _) (aB _))),k0.set _ (by omega),_,_,rfl,?_⟩;unfold jT;rw[wad hk]
 obtain⟨v,h',e,k,r,b,rfl,hs⟩:=key;refine⟨_,h',e,k,?_⟩;rw[hs];exact .inl ⟨rfl,trivial⟩
def nj (by_:Int)(t:T)(d:Int):T:=if t.i-d<0 then .mk t.kind t.i t.name t.L [] else .mk 0 (t.i+by_) (bs []) [] []
theorem c280 (hK:bW K)(kp:KP K)(m pf pb:Nat)(by_:Int)(t:T)(d:Int)(h:AH)(hf:h.get pf=some (.box [wt 0]))(hb:h.get pb=some (.box [wt by_]))(hfl:pf<h.z)(hbl:pb<h.z)(hq:Lq t)(hb0:0<=by_)(hb1:by_<=30000)(hi0:0<=t.i)(hi1:t.i<=30000)(hd0:0<=d)(hd1:d<=1000000):
  ∃h',cS K (m+2) (.fn 280 [] [.ptr pf 0 0,.ptr pb 0 0]) [enc t,wt d] .no h=some (.ret (enc (nj by_ t d)),.no,h')/\HK h h':=by
 have key:∃v h',cS K (m+2) (.fn 280 [] [.ptr pf 0 0,.ptr pb 0 0]) [enc t,wt d] .no h=some (.ret v,.no,h')/\v=enc (nj by_ t d)/\HK h h':=by
  refine cm hK cf280 (ae (aP _ _) (ae (ba _ _ _) (aB _))) ?_;have J0:=kS.init t h;obtain⟨H,hH⟩:∃H:AH,H=((h.new (.box (au t))).new (.box [wt 0,wt 0,.str (bs []),.nl,.nl])):=⟨_,rfl⟩
  rw[<-hH]at J0;have b6:=J0.b6;have b10:=J0.b10;have nx:=J0.nx;have k0:=J0.kw;have f0:=(k0.kw pf hfl).trans hf;have b0:=(k0.kw pb hbl).trans hb;unfold au at hH b6;have c87:=fun H=>kp.c87 (m+1) t hq H
  have hw:IntKind.wrap .i64 (t.i-d)=t.i-d:=br _ (by omega) (by omega);have hw2:IntKind.wrap .i64 (t.i+by_)=t.i+by_:=br _ (by omega) (by omega);have hbn:decide (by_<0)=false:=HD (by omega);rw[aA t]at c87 ⊢;unfold b280;simp only[go_sem,simprocAttr];rw[<-hH];clear hH;simp only[go_sem,simprocAttr,PB,ci,b6,hw,PC,f0];unfold nj;refine bj (fun hlt=>?_) (fun hge=>?_)
  ·have hs2:=aQ b10 (.mk t.kind t.i t.name t.L []);rw[wae hlt];simp only[go_sem,simprocAttr,b6,c87,hs2];exact⟨rfl,rfl,.inr rfl,[.agg (au (.mk t.kind t.i t.name t.L []))],by simp only[go_sem,simprocAttr,aeu,au],_,_,cC (by intro l e;cases e) (by rw[<-cN];exact aP _ _),rfl,k0.set _ (by omega)⟩
  ·rw[wad hge];obtain⟨_,H2,e2,rfl,k2⟩:=c89 hK m (t.i+by_) H (by omega);have hs2:=aQ ((k2.kw (h.z+1) (by omega)).trans b10) (.mk 0 (t.i+by_) (bs []) [] []);simp only[go_sem,simprocAttr,PD,b0,hbn,PE,b6,hw2,e2,hs2];exact⟨rfl,rfl,.inr rfl,[.agg (au (.mk 0 (t.i+by_) (bs []) [] []))],by simp only[go_sem,simprocAttr,aeu,au],_,_,cC (by intro l e;cases e) (by rw[<-cN];exact aP _ _),rfl,(k0.trans k2).set _ (by omega)⟩
 obtain⟨_,h',e,rfl,k⟩:=key;exact⟨h',e,k⟩
mutual
theorem Cy (by_:Int):∀(t:T) (d:Int),Vb 30000 t->mpT (nj by_) t d=eh by_ t d
 |.mk k i nm ls ks,d,hv=>by
  rw[mpT,eh];by_cases hk:k=0
  ·obtain⟨rfl,_⟩:=hv.1 hk;rw[wae hk,wae hk];have e:nj by_ (.mk k i nm ls []) d=if i-d<0 then .mk k i nm ls [] else .mk 0 (i+by_) (bs []) [] []:=rfl
   rw[e];by_cases h:i<d
   ·rw[wae h,wae (by omega)]
   ·rw[wad h,wad (by omega)]
  ·rw[wad hk,wad hk,xM by_ k 0 ks d hv.2]
theorem xM (by_ k:Int):∀(j:Nat) (ks:List T) (d:Int),Vbs 30000 ks->BR (nj by_) k j ks d=eJ by_ k j ks d
 |_,[],_,_=>by rw[BR,eJ]
 |j,t::l,d,hv=>by rw[BR,eJ,Cy by_ t _ hv.1,xM by_ k (j+1) l d hv.2]
end
theorem Hs {M:Int}{t x:T}{a:Nat}(h:Vb M t)(e:t.K[a]?=some x):Vb M x:=by
 cases t;exact ve h.2 e
theorem Ht {M:Int}{t:T}(h:Vb M t)(hk:t.kind=0):0<=t.i/\t.i<=M:=by
 cases t;exact(h.1 hk).2
theorem c252 (hK:bW K)(kp:KP K)(m:Nat)(x:T)(by_:Int)(h:AH)(hm:size x+5<=m)(h50:size x<=50000)(hv:Vb 30000 x)(hq:Lq x)(hb0:0<=by_)(hb1:by_<=30000):
  ∃v h',cS K (m+1) (.fn 252 [] []) [enc x,wt by_,wt 0] .no h=some (.ret v,.no,h')/\v=enc (eh by_ x 0)/\HK h h':=by
 obtain⟨m,rfl⟩:∃m',m=m'+4:=⟨m-4,by omega⟩
 refine cm hK cf252 (ae (aP _ _) (ae (ba _ _ _) (ae (ba _ _ _) (aB _)))) ?_;simp only[wab];obtain⟨H,hH⟩:∃H:AH,H=(((h.new (.box (au x))).new (.box [wt by_])).new (.box [wt 0])).new (.box [wt 0,wt 0,.str (bs []),.nl,.nl]):=⟨_,rfl⟩
 have k0:HK h H:=by subst hH;exact(((HK.new _ _).add _).add _).add _
 have n0:H.z=h.z+4:=by subst hH;simp only[ci]
 have g3:H.get h.z=some (.box (au x)):=by subst hH;rw[aJ (by simp only[ci];omega),aJ (by simp only[ci];omega),aJ (by simp only[ci];omega),aE]
 have g4:H.get (h.z+1)=some (.box [wt by_]):=by
  subst hH;rw[aJ (by simp only[ci];omega),aJ (by simp only[ci];omega),<-ci h (.box (au x)),aE]
 have g5:H.get (h.z+1+1)=some (.box [wt 0]):=by
  subst hH;have:h.z+1+1=((h.new (.box (au x))).new (.box [wt by_])).z:=by simp only[ci]
  rw[aJ (by simp only[ci];omega),this,aE]
 have g6:H.get (h.z+1+1+1)=some (.box [wt 0,wt 0,.str (bs []),.nl,.nl]):=by
  subst hH;have:h.z+1+1+1=(((h.new (.box (au x))).new (.box [wt by_])).new (.box [wt 0])).z:=by simp only[ci]
  rw[this,aE]
 have nc:∀a b:Nat,AV.ip [.ptr a 0 0,.ptr b 0 0]=[.ptr a 0 0,.ptr b 0 0]:=fun a b=>by simp[AV.ip,AV.norm]
 obtain⟨H1,y,e1,k1,gy,y1,y2⟩:=c85 hK (m+3) 280 [.ptr (h.z+1+1) 0 0,.ptr (h.z+1) 0 0] (nc _ _) H;have n1:=k1.z;obtain⟨o,H2,e2,k2,hb2⟩:=acC (cl:=cS K) (F:=127) (cap:=[.ptr y 0 0]) (P:=fun _ H=>H.get y=some (.box [.fn 280 [] [.ptr (h.z+1+1) 0 0,.ptr (h.z+1) 0 0]])/\H.get (h.z+1+1)=some (.box [wt 0])/\H.get (h.z+1)=some (.box [wt by_]))
  (Ov:=fun _=>False) (pv:=.nilf) (w:=h.z+1) (mv:=4) (Bp:=y+1) (Good:=fun t d=>Vb 30000 t/\Lq t) (step:=jT (nj by_))
  (lW hK) (fun m k j h=>kp.c128 m k j h) (by simp[AV.ip,AV.norm]) (by simp[AV.beqs,AV.beq]) (Uo _) (fun _ _ h _=>h) (by omega)
  (fun n h h' q k=>⟨(k _ (by omega)).trans q.1,(k _ (by omega)).trans q.2.1,(k _ (by omega)).trans q.2.2⟩)
  (fun t d a x g e=>⟨Hs g.1 e,g.2.kid e⟩)
  (fun m t d n H hm g _ hd0 hd1 p hB=>by
   obtain⟨m,rfl⟩:∃m',m=m'+3:=⟨m-3,by omega⟩
   obtain⟨o,H',e,k,hv⟩:=c127 hK kp (m+2) y 280 [.ptr (h.z+1+1) 0 0,.ptr (h.z+1) 0 0] (nj by_) t d H p.1 (by omega) g.2 (fun hk H2 k2=>by
    obtain⟨i0,i1⟩:=Ht g.1 hk;have:=k2.z;exact c280 hK kp m _ _ by_ t d H2 ((k2.kw _ (by omega)).trans p.2.1) ((k2.kw _ (by omega)).trans p.2.2) (by omega) (by omega) g.2 hb0 hb1 i0 i1 hd0 hd1)
   refine⟨o,H',e,k.x _,?_⟩;have hst:∃r b,jT (nj by_) t d=some (r,b,0):=by
    unfold jT;split<;>exact⟨_,_,rfl⟩
   obtain⟨r,b,hst⟩:=hst;rw[hst]at hv ⊢;rcases hv with⟨rfl,_⟩|⟨_,q⟩
   ·exact .inl ⟨rfl,(k.kw _ (by omega)).trans p.1,(k.kw _ (by omega)).trans p.2.1,(k.kw _ (by omega)).trans p.2.2⟩
   ·exact q.elim)
  (m+4) x 0 0 H1 (by omega) h50 (Int.le_refl 0) (by omega) ⟨hv,hq⟩ ⟨gy,(k1.kw _ (by omega)).trans g5,(k1.kw _ (by omega)).trans g4⟩ (by omega)
 rw[Hj,Cy by_ x 0 hv]at hb2;rcases hb2 with⟨rfl,_⟩|⟨_,q⟩
 case inr=>exact q.elim
 have n2:=k2.z;have g61:=(k1.kw (h.z+1+1+1) (by omega)).trans g6;have g31:=(k1.kw h.z (by omega)).trans g3;have g62:=(k2.kw _ (by omega) (by omega)).trans g61;have hs2:=aQ g62 (eh by_ x 0);have kk:HK h (H2.set (h.z+1+1+1) (.box (au (eh by_ x 0)))):=⟨by rw[co];have:=k0.z;omega,fun a ha=>by rw[an (by omega),k2.kw a (by omega) (by omega),k1.kw a (by omega)];exact k0.kw a ha⟩;have bb:∀a b:Int,gU (h.new (.box [wt x.kind,wt x.i,.str x.name,.ls (x.L.map aK),.ls (x.K.map enc)])) 1 (wt by_)=.val (.ptr (h.z+1) 0 0) ((h.new (.box [wt x.kind,wt x.i,.str x.name,.ls (x.L.map aK),.ls (x.K.map enc)])).new (.box [wt by_])):=fun _ _=>by rw[jE rfl,ci]
 have bb:=bb 0 0;have bz:gU ((h.new (.box [wt x.kind,wt x.i,.str x.name,.ls (x.L.map aK),.ls (x.K.map enc)])).new (.box [wt by_])) 1 (wt 0)=.val (.ptr (h.z+1+1) 0 0) (((h.new (.box [wt x.kind,wt x.i,.str x.name,.ls (x.L.map aK),.ls (x.K.map enc)])).new (.box [wt by_])).new (.box [wt 0])):=by rw[jE rfl,ci,ci]
 have bqx:AV.beq (.agg [wt x.kind,wt x.i,.str x.name,.ls (x.L.map aK),.ls (x.K.map enc)]) (.agg [wt x.kind,wt x.i,.str x.name,.ls (x.L.map aK),.ls (x.K.map enc)])=true:=by rw[<-aA];exact mW _
 unfold au at hH g3 g31;rw[aA x]at e2 ⊢;unfold b252;simp only[go_sem,simprocAttr,bb,bz,ci];rw[<-hH];clear hH;simp only[go_sem,simprocAttr,PO,g3,g31,e1,e2,hs2,bqx];exact⟨rfl,rfl,.inr rfl,[.agg (au (eh by_ x 0))],by simp only[go_sem,simprocAttr,r252,au],_,_,cC (by intro l e;cases e) (by rw[<-cN];exact aP _ _),rfl,kk⟩
end
attribute [local go_sem] dR eZ fW fX fe dU dk cI iI dT cJ di iK
def viW (vs:List T)(t:T)(d:Int):Int:=if 0<=IntKind.wrap .i64 (IntKind.wrap .i64 (t.i-d)-0)/\IntKind.wrap .i64 (IntKind.wrap .i64 (t.i-d)-0)<(vs.length:Int) then IntKind.wrap .i64 (IntKind.wrap .i64 (t.i-d)-0) else -1
theorem Hz {vs:List T}{t:T}{d:Int}(h0:0<=t.i)(h1:t.i<=30000)(d0:0<=d)(d1:d<=1000000):viW vs t d=if 0<=t.i-d/\t.i-d<(vs.length:Int) then t.i-d else -1:=by
 unfold viW;have:IntKind.wrap .i64 (IntKind.wrap .i64 (t.i-d)-0)=t.i-d:=by
  rw[br (t.i-d) (by omega) (by omega),br _ (by omega) (by omega)];omega
 rw[this]
section
variable {K:aG}
theorem c248 (hK:bW K)(m pd pv:Nat)(vs:List T)(t:T)(d:Int)(h:AH)(hd:h.get pd=some (.box [wt 0]))(hv:h.get pv=some (.box [.ls (vs.map enc)]))(dl:pd<h.z)(vl:pv<h.z):
  ∃h',cS K (m+1) (.fn 248 [] [.ptr pd 0 0,.ptr pv 0 0]) [enc t,wt d] .no h=some (.ret (wt (viW vs t d)),.no,h')/\HK h h':=by
 have key:∃v h',cS K (m+1) (.fn 248 [] [.ptr pd 0 0,.ptr pv 0 0]) [enc t,wt d] .no h=some (.ret v,.no,h')/\v=wt (viW vs t d)/\HK h h':=by
  refine cm hK cf248 (ae (aP _ _) (ae (ba _ _ _) (aB _))) ?_;obtain⟨H,hH⟩:∃H:AH,H=h.new (.box (au t)):=⟨_,rfl⟩
  have k0:HK h H:=by subst hH;exact HK.new _ _
  have x0:H.get h.z=some (.box (au t)):=by subst hH;exact aE _ _
  have d0:=(k0.kw pd dl).trans hd;have v0:=(k0.kw pv vl).trans hv;unfold au at hH x0;have fin:∀tm (e:Int),nth tm 6=wt e->e=viW vs t d->IQ aew (fun v h2=>∃v' h3,gT v h2=(v',h3)/\v'=AV.int .i64 (viW vs t d)/\HK h h3) .ret ⟨tm,⟨[],.no,none,248⟩⟩ H:=by
   intro tm e t6 he;exact⟨rfl,rfl,.inr rfl,[wt e],by simp only[go_sem,simprocAttr,aew,t6],wt e,H,rfl,by rw[he],k0⟩
  rw[aA t];unfold b248;simp only[go_sem,simprocAttr];rw[<-hH];clear hH;simp only[go_sem,simprocAttr,PV,x0,d0];unfold viW at fin;by_cases h1:0<=IntKind.wrap .i64 (IntKind.wrap .i64 (t.i-d)-0)
  ·have h1':=HE h1;by_cases h2:IntKind.wrap .i64 (IntKind.wrap .i64 (t.i-d)-0)<(vs.length:Int)
   ·have h2':=HE h2;simp only[go_sem,simprocAttr,h1',h2',v0];exact fin _ (IntKind.wrap .i64 (IntKind.wrap .i64 (t.i-d)-0)) (by simp only[go_sem,simprocAttr]) (by rw[wae ⟨h1,h2⟩])
   ·have h2':=HD h2;simp only[go_sem,simprocAttr,h1',h2',v0,FJ];exact fin _ (-1) (by simp only[go_sem,simprocAttr]) (by rw[wad (fun q=>h2 q.2)])
  ·have h1':=HD h1;simp only[go_sem,simprocAttr,h1',FJ];exact fin _ (-1) (by simp only[go_sem,simprocAttr]) (by rw[wad (fun q=>h1 q.1)])
 obtain⟨_,h',e,rfl,k⟩:=key;exact⟨h',e,k⟩
theorem aeT (hK:bW K)(m cb:Nat)(n k:Int)(h:AH)(g:h.get cb=some (.box [wt n]))(n0:0<=n)(n1:n<=5000)(k0:0<=k)(k1:k<=50000):
  ∃o h',cS K (m+2) (.fn 250 [] []) [.ptr cb 0 0,wt k] .no h=some (o,.no,h')/\HKx cb h h'/\h'.get cb=some (.box [wt (n+k)])/\((o=.ret (.tup [])/\n+k<=4096)∨(o=.pan (.ifc 198 (wt 5))/\4096<n+k)):=by
 have hr:Rn (cS K) 250:=lW hK;have key:=hr (m+1) [] _ _ .no h _ _ _ _ (fun o rc h'=>rc=.no/\HKx cb h h'/\h'.get cb=some (.box [wt (n+k)])/\((o=.ret (.tup [])/\n+k<=4096)∨(o=.pan (.ifc 198 (wt 5))/\4096<n+k))) cf250 (ae (dh cb 0 0 _) (ae (ba .i64 k _) (aB _))) (by
  simp only[wab];have hw:IntKind.wrap .i64 (n+k)=n+k:=br _ (by omega) (by omega);have e88:=fun h=>Proofs.YtnacljdablhbgaaGreat.c88 (lW hK) m 5 h
  have kx:HKx cb h (h.set cb (.box [wt (n+k)])):=⟨by rw[co];exact Fv _,fun a _ q=>an q⟩;unfold b250;simp only[go_sem,simprocAttr,g,hw,PT];refine bj (fun hb=>?_) (fun hb=>?_)
  ·simp only[go_sem,simprocAttr,e88];exact jm ⟨rfl,kx,aC _ _ _,.inr ⟨rfl,hb⟩⟩
  ·simp only[go_sem,simprocAttr];exact iv (.inl rfl) rfl ⟨.tup [],_,bG (aB _),rfl,kx,aC _ _ _,.inl ⟨rfl,by omega⟩⟩)
 obtain⟨o,rc,h',e,rfl,q⟩:=key;exact⟨o,h',e,q⟩
def wtS (vs:List T)(t:T)(d:Int):Int:=if t.kind=0/\0<=t.i-d/\t.i-d<(vs.length:Int) then size (vs.getD (t.i-d).toNat tZ) else 1
def mN (vs:List T)(t:T)(d:Int):Option (T×Bool×Int):=some (tZ,decide (t.kind=0),wtS vs t d)
theorem aec (vs:List T):W0 (mN vs):=by
 intro t d o b wg e;unfold mN at e;cases e;unfold wtS;split<;>omega
structure UC (vs:List T)(p8 p12 p9 cb kr g pd pv:Nat)(n:Int)(h:AH):Prop where
 g8:h.get p8=some (.box [.fn 248 [] [.ptr pd 0 0,.ptr pv 0 0]])
 g12:h.get p12=some (.box [.ptr cb 0 0])
 g9:h.get p9=some (.box [.row kr g 1 0 vs.length])
 gr:h.get kr=some (.row g 1 false (vs.map fun x=>dF (size x)) 0)
 gd:h.get pd=some (.box [wt 0])
 gv:h.get pv=some (.box [.ls (vs.map enc)])
 gc:h.get cb=some (.box [wt n])
 n0:0<=n
 n1:n<=4096
theorem c249 (hK:bW K)(m:Nat)(vs:List T)(hvs:∀x∈vs,size x<=2000)(p8 p12 p9 cb kr g pd pv B:Nat)(hB:p8<B/\p12<B/\p9<B/\cb<B/\kr<B/\pd<B/\pv<B)(hne:p8≠cb/\p12≠cb/\p9≠cb/\kr≠cb/\pd≠cb/\pv≠cb)(t:T)(d n:Int)(h:AH)(p:UC vs p8 p12 p9 cb kr g pd pv n h)(hb:B<=h.z)(hi:t.kind=0->0<=t.i/\t.i<=30000)(d0:0<=d)(d1:d<=1000000):
  ∃o h',cS K (m+3) (.fn 249 [] [.ptr p8 0 0,.ptr p12 0 0,.ptr p9 0 0]) [enc t,wt d] .no h=some (o,.no,h')/\HKx cb h h'/\UB (UC vs p8 p12 p9 cb kr g pd pv) (fun x=>4096<x) (.ifc 198 (wt 5)) n (mN vs t d) o h':=by
 have hr:Rn (cS K) 249:=lW hK;have key:=hr (m+2) [.ptr p8 0 0,.ptr p12 0 0,.ptr p9 0 0] _ _ .no h _ _ _ _ (fun o rc h'=>rc=.no/\HKx cb h h'/\UB (UC vs p8 p12 p9 cb kr g pd pv) (fun x=>4096<x) (.ifc 198 (wt 5)) n (mN vs t d) o h') cf249 (ae (aP t _) (ae (ba .i64 d _) (aB _))) (by
  have J0:=kS.init t h;obtain⟨H,hH⟩:∃H:AH,H=((h.new (.box (au t))).new (.box [wt 0,wt 0,.str (bs []),.nl,.nl])):=⟨_,rfl⟩
  rw[<-hH]at J0;have b6:=J0.b6;have b10:=J0.b10;have nx:=J0.nx;have k0:=J0.kw;have q8:=(k0.kw p8 (by omega)).trans p.g8;obtain⟨H2,e2,k2⟩:=c248 hK (m+1) pd pv vs t d H ((k0.kw pd (by omega)).trans p.gd) ((k0.kw pv (by omega)).trans p.gv) (by omega) (by omega);have b62:=(k2.kw h.z (by omega)).trans b6;have b102:=(k2.kw (h.z+1) (by omega)).trans b10;have k02:=k0.trans k2;have r12:=(k02.kw p12 (by omega)).trans p.g12;have r9:=(k02.kw p9 (by omega)).trans p.g9;have rr:=(k02.kw kr (by omega)).trans p.gr;have rc:=(k02.kw cb (by omega)).trans p.gc;have fin:∀(wg:Int) (o:bI) (H3:AH),0<=wg->wg<=50000->wg=wtS vs t d->cS K (m+2) (.fn 250 [] []) [.ptr cb 0 0,wt wg] .no H2=some (o,.no,H3)->HKx cb H2 H3->H3.get cb=some (.box [wt (n+wg)])->((o=.ret (.tup [])/\n+wg<=4096)∨(o=.pan (.ifc 198 (wt 5))/\4096<n+wg))->
    HKx cb h (H3.set (h.z+1) (.box [wt 0,wt 0,.str (bs []),.nl,.nl]))/\(n+wg<=4096->UC vs p8 p12 p9 cb kr g pd pv (n+wg) (H3.set (h.z+1) (.box [wt 0,wt 0,.str (bs []),.nl,.nl]))):=by
   intro wg o H3 w0 w1 ew e k3 g3 _;refine⟨((k02.x cb).trans k3).set _ (.inl (by omega)),fun hle=>?_⟩;have f:∀a,a<B->a≠cb->(H3.set (h.z+1) (.box [wt 0,wt 0,.str (bs []),.nl,.nl])).get a=h.get a:=fun a q1 q2=>by
    rw[an (by omega),k3.kw a (by have:=k02.z;omega) q2,k02.kw a (by omega)]
   exact⟨(f _ (by omega) (by omega)).trans p.g8,(f _ (by omega) (by omega)).trans p.g12,(f _ (by omega) (by omega)).trans p.g9,(f _ (by omega) (by omega)).trans p.gr,(f _ (by omega) (by omega)).trans p.gd,(f _ (by omega) (by omega)).trans p.gv,by rw[an (by omega)];exact g3,by have:=p.n0;omega,hle⟩
  have pn0:=p.n0;have pn1:=p.n1;unfold au at hH b6 b62;rw[aA t]at e2 ⊢;unfold b249;simp only[go_sem,simprocAttr];rw[<-hH];clear hH;simp only[go_sem,simprocAttr,PU,ci,q8,b6,e2,b62];by_cases hk:t.kind=0
  ·have hk':=HE hk;obtain⟨i0,i1⟩:=hi hk;have hvi:=Hz (vs:=vs) i0 i1 d0 d1;by_cases hin:0<=t.i-d/\t.i-d<(vs.length:Int)
   ·rw[wae hin]at hvi;obtain⟨a,ha⟩:∃a:Nat,t.i-d=(a:Int):=⟨(t.i-d).toNat,by omega⟩
    have hal:a<vs.length:=by omega
    have hget:vs[a]?=some vs[a]:=wO hal;have hwt:wtS vs t d=size vs[a]:=by
     unfold wtS;rw[wae ⟨hk,hin⟩,ha,Int.toNat_natCast,List.getD_eq_getElem?_getD,hget];rfl
    have hsz:=hvs _ (List.getElem_mem hal);rw[hvi,ha];have hge:decide ((0:Int)<=(a:Int))=true:=HE (by omega);have hia:∀H,cz (.row kr g 1 0 vs.length) H 1 (wt (a:Int))=.val (.ptr kr g a) H:=by
     intro H;show okV (cond (Nat.beq 1 1) (aq (aq (some a) fun m=>cond (Nat.blt m vs.length) (some m) none) fun n=>some (.ptr kr g (Nat.mul (Nat.add 0 n) 1))) none) H=_;have hb:Nat.blt a vs.length=true:=Nat.ble_eq_true_of_le hal;rw[aF,hb];show OpR.val (.ptr kr g (Nat.mul (Nat.add 0 a) 1)) H=_;congr 2;show(0+a)*1=a;omega
    have hld:dH (.ptr kr g a) H2 false 1=some (wt (size vs[a])):=by
     rw[jz,rr,aF];show cond (Nat.beq g g) (pN false 1 a (vs.map fun x=>dF (size x))) none=_;rw[fN,cond_true,wN,List.getElem?_map,hget];rfl
    obtain⟨o,H3,e3,k3,g3,ho⟩:=aeT hK m cb n (size vs[a]) H2 rc pn0 (by omega) (by omega) (by omega);obtain⟨f1,f2⟩:=fin _ o H3 (by omega) (by omega) hwt.symm e3 k3 g3 ho;have n3:=k3.z;have n2:=k2.z;have b63:=(k3.kw h.z (by omega) (by omega)).trans b62;have b103:=(k3.kw (h.z+1) (by omega) (by omega)).trans b102;have nne:¬h.z=h.z+1:=by omega
    rcases ho with⟨rfl,hle⟩|⟨rfl,hgt⟩
    ·simp only[go_sem,simprocAttr,hk',hge,r12,r9,hia,hld,e3,Af,b63,b103,nne];refine iv (.inr rfl) (vs:=[.agg [wt 0,wt 0,.str (bs []),.nl,.nl],.bool true]) (by simp only[go_sem,simprocAttr,acp]) ⟨_,_,bG (ae (pU _) (ae (jd _ _) (aB _))),rfl,f1,?_⟩;unfold mN;rw[hk'];exact .inl ⟨rfl,by rw[hwt];exact f2 hle⟩
    ·simp only[go_sem,simprocAttr,hk',hge,r12,r9,hia,hld,e3];refine jm ⟨rfl,(k02.x cb).trans k3,?_⟩;exact .inr ⟨rfl,by rw[hwt];exact hgt⟩
   ·rw[wad hin]at hvi;have hwt:wtS vs t d=1:=by unfold wtS;rw[wad (fun q=>hin q.2)]
    rw[hvi];have hge:decide ((0:Int)<=-1)=false:=rfl;obtain⟨o,H3,e3,k3,g3,ho⟩:=aeT hK m cb n 1 H2 rc pn0 (by omega) (by omega) (by omega);obtain⟨f1,f2⟩:=fin _ o H3 (by omega) (by omega) hwt.symm e3 k3 g3 ho;have n3:=k3.z;have n2:=k2.z;have b63:=(k3.kw h.z (by omega) (by omega)).trans b62;have b103:=(k3.kw (h.z+1) (by omega) (by omega)).trans b102;have nne:¬h.z=h.z+1:=by omega
    rcases ho with⟨rfl,hle⟩|⟨rfl,hgt⟩
    ·simp only[go_sem,simprocAttr,hk',r12,e3,Af,b63,b103,nne];refine iv (.inr rfl) (vs:=[.agg [wt 0,wt 0,.str (bs []),.nl,.nl],.bool true]) (by simp only[go_sem,simprocAttr,acp]) ⟨_,_,bG (ae (pU _) (ae (jd _ _) (aB _))),rfl,f1,?_⟩;unfold mN;rw[hk'];exact .inl ⟨rfl,by rw[hwt];exact f2 hle⟩
    ·simp only[go_sem,simprocAttr,hk',r12,e3];refine jm ⟨rfl,(k02.x cb).trans k3,?_⟩;exact .inr ⟨rfl,by rw[hwt];exact hgt⟩
  ·have hk':=HD hk;have hwt:wtS vs t d=1:=by unfold wtS;rw[wad (fun q=>hk q.1)]
   obtain⟨o,H3,e3,k3,g3,ho⟩:=aeT hK m cb n 1 H2 rc pn0 (by omega) (by omega) (by omega);obtain⟨f1,f2⟩:=fin _ o H3 (by omega) (by omega) hwt.symm e3 k3 g3 ho;have n3:=k3.z;have n2:=k2.z;have b63:=(k3.kw h.z (by omega) (by omega)).trans b62;have b103:=(k3.kw (h.z+1) (by omega) (by omega)).trans b102;have nne:¬h.z=h.z+1:=by omega
   rcases ho with⟨rfl,hle⟩|⟨rfl,hgt⟩
   ·simp only[go_sem,simprocAttr,hk',r12,e3,Af,b63,b103,nne];refine iv (.inr rfl) (vs:=[.agg [wt 0,wt 0,.str (bs []),.nl,.nl],.bool false]) (by simp only[go_sem,simprocAttr,acp]) ⟨_,_,bG (ae (pU _) (ae (jd _ _) (aB _))),rfl,f1,?_⟩;unfold mN;rw[hk'];exact .inl ⟨rfl,by rw[hwt];exact f2 hle⟩
   ·simp only[go_sem,simprocAttr,hk',r12,e3];refine jm ⟨rfl,(k02.x cb).trans k3,?_⟩;exact .inr ⟨rfl,by rw[hwt];exact hgt⟩)
 obtain⟨o,rc,h',e,rfl,q⟩:=key;exact⟨o,h',e,q⟩
end
section
variable (vs:List T)(hvs:∀x∈vs,Vb 30000 x)
set_option linter.unusedSectionVars false
include hvs
mutual
theorem IZ:∀(t:T) (d:Int),0<=d->Vb 30000 t->∃r,bld (mN vs) t d=some (r,(size (gA vs t d):Int))
 |.mk k i nm ls ks,d,hd,hv=>by
  by_cases hk:k=0
  ·obtain⟨rfl,i0,i1⟩:=hv.1 hk;have hs:mN vs (.mk k i nm ls []) d=some (tZ,true,(size (gA vs (.mk k i nm ls []) d):Int)):=by
    unfold mN;rw[HE (show(T.mk k i nm ls []).kind=0 from hk)];congr 3;have ew:wtS vs (.mk k i nm ls []) d=if k=0/\0<=i-d/\i-d<(vs.length:Int) then (size (vs.getD (i-d).toNat tZ):Int) else 1:=rfl
    rw[ew,gA,wae hk];by_cases hle:d<=i
    ·rw[wae hle];cases hg:vs[(i-d).toNat]? with
     |some x=>
      have hl:=(wah.1 hg).1;rw[wae ⟨hk,by omega,by omega⟩,List.getD_eq_getElem?_getD,hg];simp only[Option.getD_some];rw[ln d x 0 (hvs x (wS hg))]
     |none=>
      have hl:=List.getElem?_eq_none_iff.1 hg;rw[wad (fun q=>by omega)];simp[size,aW]
    ·rw[wad hle,wad (fun q=>by omega)];simp[size,aW]
   exact⟨tZ,by rw[bld,hs]⟩
  ·have hs:mN vs (.mk k i nm ls ks) d=some (tZ,false,1):=by
    unfold mN;rw[HD (show ¬(T.mk k i nm ls ks).kind=0 from hk)];congr 3;unfold wtS;rw[wad (fun q=>hk q.1)]
   obtain⟨l,hl⟩:=CX k 0 ks d hd hv.2;refine⟨.mk tZ.kind tZ.i tZ.name tZ.L l,?_⟩;rw[bld,hs];simp only[hl];rw[gA,wad hk,size];simp
theorem CX (k:Int):∀(j:Nat) (ks:List T) (d:Int),0<=d->Vbs 30000 ks->∃l,blds (mN vs) k j ks d=some (l,(aW (dr vs k j ks d):Int))
 |_,[],_,_,_=>⟨[],by rw[blds,dr,aW];rfl⟩
 |j,t::l,d,hd,hv=>by
  have hb:=fO k j;obtain⟨r,hr⟩:=IZ t (d+aV k j) (by omega) hv.1;obtain⟨l',hl⟩:=CX k (j+1) l d hd hv.2;refine⟨r::l',?_⟩;rw[blds,hr];simp only[hl];rw[dr,aW];simp
end
end
attribute [local go_sem] dR eZ fW fX fe dU dk cI iI dT cJ di iK
theorem make1 (n:Nat)(h:AH)(hn:n<=100000):fq h false 1 8 [wt 0] (wt (n:Int)) (wt (n:Int))=some (.row h.z 0 1 0 n,h.new (.row 0 1 false (List.replicate n (wt 0)) 0)):=by
 have e:lX (wt (n:Int)) 9223372036854775807=some n:=by
  show aq (some n) (fun m=>cond (Nat.ble m 9223372036854775807) (some m) none)=_;rw[aF,gj (by omega)];rfl
 unfold fq;rw[e,aF,aF];show cond (and (Nat.beq n n) (and (Nat.ble (n*8) 140737488355328) (Nat.beq (len [AV.int .i64 0]) 1))) (some (AV.row h.z 0 1 0 n,h.new (.row 0 1 false (pI n [wt 0]) 0))) none=_;have er:∀n,pI n [AV.int .i64 0]=List.replicate n (wt 0):=by
  intro n;induction n with
  |zero=>rfl
  |succ n ih=>
   show app [AV.int .i64 0] (pI n [AV.int .i64 0])=_;rw[fk,ih,List.replicate_succ];rfl
 rw[fN,gj (by omega),er];rfl
theorem JU {kk g n a:Nat}(ha:a<n)(H:AH):cz (.row kk g 1 0 n) H 1 (wt (a:Int))=.val (.ptr kk g a) H:=by
 show okV (cond (Nat.beq 1 1) (aq (aq (some a) fun m=>cond (Nat.blt m n) (some m) none) fun n=>some (.ptr kk g (Nat.mul (Nat.add 0 n) 1))) none) H=_;have hb:Nat.blt a n=true:=Nat.ble_eq_true_of_le ha;rw[aF,hb];show OpR.val (.ptr kk g (Nat.mul (Nat.add 0 a) 1)) H=_;congr 2;show(0+a)*1=a;omega
theorem JT {kk g a:Nat}{h:AH}{cur:List AV}(hk:h.get kk=some (.row g 1 false cur 0))(ha:a<cur.length)(z:Int):cR (.ptr kk g a) h 1 (wt z)=some (h.set kk (.row g 1 false (cur.set a (wt z)) 0)):=by
 rw[eF (v:=wt z) kk g a 1 rfl rfl,hk,aF];show aq (cond (and (Nat.beq g g) (and (Nat.ble 0 a) (Nat.ble (a+len [AV.int .i64 z]) (len cur)))) (some (eI.row g 1 false (setR a [wt z] cur) 0)) none) _=_;rw[fN,bH,bH,gj (show a+[AV.int .i64 z].length<=cur.length by simp only[List.length_cons,List.length_nil];omega),Ce _ _ _ ha];rfl
def lA (vs:List T)(t:T)(d:Int):T:=if 0<=t.i-d/\t.i-d<(vs.length:Int) then eh d (vs.getD (t.i-d).toNat tZ) 0 else if t.i-d<0 then .mk t.kind t.i t.name t.L [] else .mk 0 (t.i-vs.length) (bs []) [] []
mutual
theorem Cw (vs:List T):∀(t:T) (d:Int),Vb 30000 t->mpT (lA vs) t d=gA vs t d
 |.mk k i nm ls ks,d,hv=>by
  rw[mpT,gA];by_cases hk:k=0
  ·obtain⟨rfl,_⟩:=hv.1 hk;rw[wae hk,wae hk];have e:lA vs (.mk k i nm ls []) d=if 0<=i-d/\i-d<(vs.length:Int) then eh d (vs.getD (i-d).toNat tZ) 0 else if i-d<0 then .mk k i nm ls [] else .mk 0 (i-vs.length) (bs []) [] []:=rfl
   rw[e];by_cases h:d<=i
   ·rw[wae h];cases hg:vs[(i-d).toNat]? with
    |some x=>
     have hl:=(wah.1 hg).1;rw[wae ⟨by omega,by omega⟩,List.getD_eq_getElem?_getD,hg];rfl
    |none=>
     have hl:=List.getElem?_eq_none_iff.1 hg;rw[wad (fun q=>by omega),wad (by omega)]
   ·rw[wad h,wad (fun q=>by omega),wae (by omega)]
  ·rw[wad hk,wad hk,xK vs k 0 ks d hv.2]
theorem xK (vs:List T)(k:Int):∀(j:Nat) (ks:List T) (d:Int),Vbs 30000 ks->BR (lA vs) k j ks d=dr vs k j ks d
 |_,[],_,_=>by rw[BR,dr]
 |j,t::l,d,hv=>by rw[BR,dr,Cw vs t _ hv.1,xK vs k (j+1) l d hv.2]
end
section
variable {K:aG}
theorem c251 (hK:bW K)(kp:KP K)(m:Nat)(hm:2010<=m)(vs:List T)(hvs:∀x∈vs,size x<=2000/\Vb 30000 x/\Lq x)(hvl:vs.length<=1000)(p8 pv pd:Nat)(t:T)(d:Int)(h:AH)(g8:h.get p8=some (.box [.fn 248 [] [.ptr pd 0 0,.ptr pv 0 0]]))(gd:h.get pd=some (.box [wt 0]))(gv:h.get pv=some (.box [.ls (vs.map enc)]))(l8:p8<h.z)(ld:pd<h.z)(lv:pv<h.z)(hq:Lq t)(i0:0<=t.i)(i1:t.i<=30000)(d0:0<=d)(d1:d<=30000):
  ∃h',cS K (m+3) (.fn 251 [] [.ptr p8 0 0,.ptr pv 0 0,.ptr pd 0 0]) [enc t,wt d] .no h=some (.ret (enc (lA vs t d)),.no,h')/\HK h h':=by
 have key:∃v h',cS K (m+3) (.fn 251 [] [.ptr p8 0 0,.ptr pv 0 0,.ptr pd 0 0]) [enc t,wt d] .no h=some (.ret v,.no,h')/\v=enc (lA vs t d)/\HK h h':=by
  refine cm hK cf251 (ae (aP _ _) (ae (ba _ _ _) (aB _))) ?_;have J0:=kS.init t h;obtain⟨H,hH⟩:∃H:AH,H=((h.new (.box (au t))).new (.box [wt 0,wt 0,.str (bs []),.nl,.nl])):=⟨_,rfl⟩
  rw[<-hH]at J0;have b6:=J0.b6;have b10:=J0.b10;have nx:=J0.nx;have k0:=J0.kw;have q8:=(k0.kw p8 l8).trans g8;obtain⟨H2,e2,k2⟩:=c248 hK (m+1) pd pv vs t d H ((k0.kw pd ld).trans gd) ((k0.kw pv lv).trans gv) (by omega) (by omega);have n2:=k2.z;have b62:=(k2.kw h.z (by omega)).trans b6;have b102:=(k2.kw (h.z+1) (by omega)).trans b10;have k02:=k0.trans k2;have rd:=(k02.kw pd (by omega)).trans gd;have rv:=(k02.kw pv (by omega)).trans gv;have hvi:=Hz (vs:=vs) i0 i1 d0 (by omega);have fin:∀(tm:Tm) (H4:AH) (r:T),nth tm 7=.ptr (h.z+1) 0 0->HK H2 H4->lA vs t d=r->IQ aev (fun v h2=>∃v' h3,gT v h2=(v',h3)/\v'=enc (lA vs t d)/\HK h h3) .ret ⟨tm,⟨[],.no,none,251⟩⟩ (H4.set (h.z+1) (.box (au r))):=by
   intro tm H4 r t7 k4 er;exact⟨rfl,rfl,.inr rfl,[.agg (au r)],by simp only[go_sem,simprocAttr,aev,t7,au],_,_,cC (by intro l e;cases e) (by rw[<-cN];exact aP _ _),by rw[er],(k02.trans k4).set _ (by omega)⟩
  unfold au at hH b6 b62;rw[aA t]at e2 ⊢;unfold b251;simp only[go_sem,simprocAttr];rw[<-hH];clear hH;simp only[go_sem,simprocAttr,PQ,ci,q8,b6,e2];unfold lA at fin ⊢;by_cases hin:0<=t.i-d/\t.i-d<(vs.length:Int)
  ·rw[wae hin]at hvi;rw[wae hin]at fin;obtain⟨a,ha⟩:∃a:Nat,t.i-d=(a:Int):=⟨(t.i-d).toNat,by omega⟩
   have hal:a<vs.length:=by omega
   have hget:vs[a]?=some vs[a]:=wO hal;rw[wae hin];rw[ha,Int.toNat_natCast,List.getD_eq_getElem?_getD,hget,Option.getD_some]at fin ⊢;obtain⟨z1,z2,z3⟩:=hvs _ (List.getElem_mem hal);have hia:=fun H=>aN aZ hget .i64 H
   rw[hvi,ha];have hge:decide ((0:Int)<=(a:Int))=true:=HE (by omega);have hw:IntKind.wrap .i64 (0+d)=d:=by rw[Int.zero_add];exact br _ (by omega) (by omega)
   obtain⟨_,H3,e3,rfl,k3⟩:=c252 hK kp (m+1) vs[a] d H2 (by omega) (by omega) z2 z3 d0 (by omega);have hs3:=aQ ((k3.kw (h.z+1) (by omega)).trans b102) (eh d vs[a] 0);simp only[go_sem,simprocAttr,hge,rv,rd,hia,hw,e3,hs3];exact fin _ H3 _ (by simp only[go_sem,simprocAttr]) k3 rfl
  ·rw[wad hin]at hvi fin;rw[wad hin];have hge:decide ((0:Int)<=-1)=false:=rfl;have hw:IntKind.wrap .i64 (t.i-d)=t.i-d:=br _ (by omega) (by omega);rw[hvi];simp only[go_sem,simprocAttr,PR,b62,hw,rd];refine bj (fun hlt=>?_) (fun hnl=>?_)
   ·rw[wae hlt]at fin ⊢;have c87:=fun H=>kp.c87 (m+2) t hq H
    rw[aA t]at c87;have hs3:=aQ b102 (.mk t.kind t.i t.name t.L []);simp only[go_sem,simprocAttr,b62,c87,hs3];exact fin _ H2 _ (by simp only[go_sem,simprocAttr]) (HK.refl _) rfl
   ·rw[wad hnl]at fin ⊢;have hw2:IntKind.wrap .i64 (t.i-(vs.length:Int))=t.i-vs.length:=br _ (by omega) (by omega);obtain⟨_,H3,e3,rfl,k3⟩:=c89 hK (m+1) (t.i-vs.length) H2 (by omega);have hs3:=aQ ((k3.kw (h.z+1) (by omega)).trans b102) (.mk 0 (t.i-vs.length) (bs []) [] []);simp only[go_sem,simprocAttr,PS,b62,rv,hw2,e3,hs3];exact fin _ H3 _ (by simp only[go_sem,simprocAttr]) k3 rfl
 obtain⟨_,h',e,rfl,k⟩:=key;exact⟨h',e,k⟩
end
attribute [local go_sem] dR eZ fW fX fe dU dk cI iI dT cJ di iK
structure Mc (t:T)(vs:List T)(h0 h:AH)(cur:List AV):Prop where
 g3:h.get h0.z=some (.box (au t))
 g4:h.get (h0.z+1)=some (.box [.ls (vs.map enc)])
 g5:h.get (h0.z+1+1)=some (.box [wt 0])
 g6:h.get (h0.z+1+1+1)=some (.box [wt 0,wt 0,.str (bs []),.nl,.nl])
 g7:h.get (h0.z+1+1+1+1)=some (.box [wt 0])
 g8:h.get (h0.z+5)=some (.box [.fn 248 [] [.ptr (h0.z+1+1) 0 0,.ptr (h0.z+1) 0 0]])
 gr:h.get (h0.z+5+1)=some (.row 0 1 false cur 0)
 g9:h.get (h0.z+5+1+1)=some (.box [.row (h0.z+5+1) 0 1 0 vs.length])
 kw:HK h0 h
 nx:h0.z+8<=h.z
theorem Mc.up {t:T}{vs:List T}{h0 h h':AH}{cur:List AV}(J:Mc t vs h0 h cur)(k:HK h h'):Mc t vs h0 h' cur:=by
 have:=J.nx;exact⟨(k.kw _ (by omega)).trans J.g3,(k.kw _ (by omega)).trans J.g4,(k.kw _ (by omega)).trans J.g5,(k.kw _ (by omega)).trans J.g6,(k.kw _ (by omega)).trans J.g7,(k.kw _ (by omega)).trans J.g8,(k.kw _ (by omega)).trans J.gr,(k.kw _ (by omega)).trans J.g9,J.kw.trans k,Nat.le_trans J.nx k.z⟩
theorem Mc.put {t:T}{vs:List T}{h0 h:AH}{cur:List AV}(J:Mc t vs h0 h cur)(cur':List AV):Mc t vs h0 (h.set (h0.z+5+1) (.row 0 1 false cur' 0)) cur':=by
 have:=J.nx;exact⟨(an (by omega)).trans J.g3,(an (by omega)).trans J.g4,(an (by omega)).trans J.g5,(an (by omega)).trans J.g6,(an (by omega)).trans J.g7,(an (by omega)).trans J.g8,aC _ _ _,(an (by omega)).trans J.g9,J.kw.set _ (by omega),by rw[co];exact J.nx⟩
structure L207 (vs:List T)(h0:AH)(tm:Tm):Prop where
 t3:nth tm 3=.ptr h0.z 0 0
 t4:nth tm 4=.ptr (h0.z+1) 0 0
 t5:nth tm 5=.ptr (h0.z+1+1) 0 0
 t6:nth tm 6=.ptr (h0.z+1+1+1) 0 0
 t7:nth tm 7=.ptr (h0.z+1+1+1+1) 0 0
 t8:nth tm 8=.ptr (h0.z+5) 0 0
 t9:nth tm 9=.ptr (h0.z+5+1+1) 0 0
def adT (h0:AH):List DF:=[.call (.fn 247 [] [.ptr (h0.z+1+1+1) 0 0,.ptr (h0.z+1+1+1+1) 0 0]) []]
def I207 (t:T)(vs:List T)(h0:AH)(j:Nat)(fr:AF)(h:AH):Prop:=∃tm p cur,p+j=vs.length/\fr=⟨tm,⟨adT h0,.no,none,207⟩⟩/\L207 vs h0 tm/\nth tm 21=.ls (vs.map enc)/\nth tm 22=wt (vs.length:Int)/\nth tm 23=wt (p:Int)/\Mc t vs h0 h cur/\cur.length=vs.length/\cur.take p=(vs.take p).map fun x=>dF (size x)
section
variable {K:aG}
theorem c207 (hK:bW K)(kb:KB K)(kf:KF K)(kp:KP K)(m:Nat)(t:T)(vs:List T)(hvs:∀x∈vs,size x<=2000/\Vb 30000 x/\Lq x)(hvl:vs.length<=1000)(hs:size t<=2000)(hv:Vb 30000 t)(hq:Lq t)(hm:4100<=m)
  (hg1:size (gA vs t 0)<=4096) (hg2:io (gA vs t 0)<=200) (h:AH) :
  ∃h',cS K (m+1) (.fn 207 [] []) [enc t,.ls (vs.map enc),wt 0] .no h=some (.ret (.tup [enc (gA vs t 0),wt 0]),.no,h')/\HK h h':=by
 have hr:Rn (cS K) 207:=lW hK;have key:=hr m [] _ _ .no h _ _ _ _ (fun o rc h'=>rc=.no/\o=.ret (.tup [enc (gA vs t 0),wt 0])/\HK h h') cf207 (ae (aP t _) (ae (iL vs _) (ae (ba .i64 0 _) (aB _)))) (by
  simp only[wab];obtain⟨m,rfl⟩:∃m',m=m'+4:=⟨m-4,by omega⟩
  obtain⟨H0,hH0⟩:∃H0:AH,H0=((((h.new (.box (au t))).new (.box [.ls (vs.map enc)])).new (.box [wt 0])).new (.box [wt 0,wt 0,.str (bs []),.nl,.nl])).new (.box [wt 0]):=⟨_,rfl⟩
  have n0:H0.z=h.z+5:=by subst hH0;simp only[ci]
  have k0:HK h H0:=by subst hH0;exact((((HK.new _ _).add _).add _).add _).add _
  have g3:H0.get h.z=some (.box (au t)):=by subst hH0;rw[aJ (by simp only[ci];omega),aJ (by simp only[ci];omega),aJ (by simp only[ci];omega),aJ (by simp only[ci];omega),aE]
  have g4:H0.get (h.z+1)=some (.box [.ls (vs.map enc)]):=by
   subst hH0;rw[aJ (by simp only[ci];omega),aJ (by simp only[ci];omega),aJ (by simp only[ci];omega),<-ci h (.box (au t)),aE]
  have g5:H0.get (h.z+1+1)=some (.box [wt 0]):=by
   subst hH0;have:h.z+1+1=((h.new (.box (au t))).new (.box [.ls (vs.map enc)])).z:=by simp only[ci]
   rw[aJ (by simp only[ci];omega),aJ (by simp only[ci];omega),this,aE]
  have g6:H0.get (h.z+1+1+1)=some (.box [wt 0,wt 0,.str (bs []),.nl,.nl]):=by
   subst hH0;have:h.z+1+1+1=(((h.new (.box (au t))).new (.box [.ls (vs.map enc)])).new (.box [wt 0])).z:=by simp only[ci]
   rw[aJ (by simp only[ci];omega),this,aE]
  have g7:H0.get (h.z+1+1+1+1)=some (.box [wt 0]):=by
   subst hH0;have:h.z+1+1+1+1=((((h.new (.box (au t))).new (.box [.ls (vs.map enc)])).new (.box [wt 0])).new (.box [wt 0,wt 0,.str (bs []),.nl,.nl])).z:=by simp only[ci]
   rw[this,aE]
  obtain⟨H1,hH1⟩:∃H1:AH,H1=(H0.new (.box [.nilf])).set H0.z (.box [.fn 248 [] [.ptr (h.z+1+1) 0 0,.ptr (h.z+1) 0 0]]):=⟨_,rfl⟩
  have k1:HK H0 H1:=by subst hH1;exact HK.new_set _ _ _
  have n1:H1.z=h.z+5+1:=by subst hH1;simp only[co,ci,n0]
  have x1:H1.get (h.z+5)=some (.box [.fn 248 [] [.ptr (h.z+1+1) 0 0,.ptr (h.z+1) 0 0]]):=by subst hH1;rw[<-n0];exact aC _ _ _
  obtain⟨H2,hH2⟩:∃H2:AH,H2=H1.new (.row 0 1 false (List.replicate vs.length (wt 0)) 0):=⟨_,rfl⟩
  have k2:HK H1 H2:=by subst hH2;exact HK.new _ _
  have n2:H2.z=h.z+5+1+1:=by subst hH2;simp only[ci,n1]
  have x2:H2.get (h.z+5+1)=some (.row 0 1 false (List.replicate vs.length (wt 0)) 0):=by subst hH2;rw[<-n1];exact aE _ _
  obtain⟨H3,hH3⟩:∃H3:AH,H3=(H2.new (.box [.nl])).set H2.z (.box [.row (h.z+5+1) 0 1 0 vs.length]):=⟨_,rfl⟩
  have k3:HK H2 H3:=by subst hH3;exact HK.new_set _ _ _
  have n3:H3.z=h.z+8:=by subst hH3;simp only[co,ci,n2]
  have x3:H3.get (h.z+5+1+1)=some (.box [.row (h.z+5+1) 0 1 0 vs.length]):=by subst hH3;rw[<-n2];exact aC _ _ _
  have k13:=(k1.trans k2).trans k3;have J:Mc t vs h H3 (List.replicate vs.length (wt 0)):=⟨(k13.kw _ (by omega)).trans g3,(k13.kw _ (by omega)).trans g4,(k13.kw _ (by omega)).trans g5,(k13.kw _ (by omega)).trans g6,(k13.kw _ (by omega)).trans g7,((k2.trans k3).kw _ (by omega)).trans x1,(k3.kw _ (by omega)).trans x2,x3,k0.trans k13,by omega⟩;have g4':=(k1.kw (h.z+1) (by omega)).trans g4;have mk:=make1 vs.length H1 (by omega);rw[n1,<-hH2]at mk;have bl:∀H:AH,gU H 1 (.ls (vs.map enc))=.val (.ptr H.z 0 0) (H.new (.box [.ls (vs.map enc)])):=fun H=>jE rfl
  have bz:∀H:AH,gU H 1 (wt 0)=.val (.ptr H.z 0 0) (H.new (.box [wt 0])):=fun H=>jE rfl
  have hst1:cR (.ptr H0.z 0 0) (H0.new (.box [.nilf])) 1 (.fn 248 [] [.ptr (h.z+1+1) 0 0,.ptr (h.z+1) 0 0])=some H1:=by rw[hH1];simp only[go_sem,simprocAttr]
  have hst3:cR (.ptr H2.z 0 0) (H2.new (.box [.nl])) 1 (.row (h.z+5+1) 0 1 0 vs.length)=some H3:=by rw[hH3];simp only[go_sem,simprocAttr]
  rw[n0]at hst1;rw[n2]at hst3;clear hH1 hH2 hH3 x1 x2 x3 k13 g3 g6 g7 k1 k2 k3 k0;unfold au at hH0;rw[aA t];unfold b207;simp only[go_sem,simprocAttr,bl,bz,ci];rw[<-hH0];clear hH0;simp only[go_sem,simprocAttr,HL,g5,HM,HN,n0,hst1,Qs,g4',mk,n2,hst3,Qt,J.g4];refine bD (I207 t vs h) vs.length (by omega) ⟨_,0,_,wac _,rfl,⟨by simp only[go_sem,simprocAttr],by simp only[go_sem,simprocAttr],by simp only[go_sem,simprocAttr],by simp only[go_sem,simprocAttr],by simp only[go_sem,simprocAttr],by simp only[go_sem,simprocAttr],by simp only[go_sem,simprocAttr]⟩,by simp only[go_sem,simprocAttr],by simp only[go_sem,simprocAttr],by simp only[go_sem,simprocAttr],J,by simp,by simp⟩ ?_;clear J g4 g5 g4' mk hst1 hst3 n0 n1 n2 n3 H0 H1 H2 H3 bl bz;rintro j fr H ⟨tm,p,cur,hp,rfl,L,t21,t22,t23,J,hcl,hct⟩;have t9:=L.t9;have nx:=J.nx;have g9:=J.g9;unfold TT;simp only[go_sem,simprocAttr,Qz,t22,t23];refine bj (fun hlt=>?_) (fun hge=>?_)
  ·have hlt:p<vs.length:=by omega
   have hget:vs[p]?=some vs[p]:=wO hlt;have ha:=fun h=>aN aZ hget .i64 h
   obtain⟨z1,_,_⟩:=hvs _ (List.getElem_mem hlt);revert ha z1 hget;generalize vs[p]=x;intro hget ha z1;have hw:=aM p (by omega);have hst6:=aQ (h:=H.new (.box [wt 0,wt 0,.str (bs []),.nl,.nl])) (k:=H.z) (aE _ _) x;obtain⟨H7,hH7⟩:∃H7:AH,H7=(H.new (.box [wt 0,wt 0,.str (bs []),.nl,.nl])).set H.z (.box (au x)):=⟨_,rfl⟩
   have k7:HK H H7:=by subst hH7;exact HK.new_set _ _ _
   have x7:H7.get H.z=some (.box (au x)):=by subst hH7;exact aC _ _ _
   rw[<-hH7]at hst6;clear hH7;obtain⟨_,H8,e8,rfl,k8⟩:=c245 hK kb (m+3) x H7 (by omega) (by omega);have J8:=J.up (k7.trans k8);have g97:=(k7.kw _ (by omega)).trans g9;have g98:=J8.g9;have hia:=fun H=>JU (kk:=h.z+5+1) (g:=0) (n:=vs.length) hlt H
   have hst9:=JT J8.gr (a:=p) (by omega) (size x:Int);unfold au at x7;rw[aA x]at e8;have bqx:AV.beq (.agg [wt x.kind,wt x.i,.str x.name,.ls (x.L.map aK),.ls (x.K.map enc)]) (.agg [wt x.kind,wt x.i,.str x.name,.ls (x.L.map aK),.ls (x.K.map enc)])=true:=by rw[<-aA];exact mW _
   simp only[go_sem,simprocAttr,QA,t9,t21,t23,ha,hst6,g97,g98,x7,e8,hia,hst9,hw];refine⟨j-1,by omega,_,p+1,cur.set p (wt (size x)),by omega,rfl,⟨by simp only[go_sem,simprocAttr,L.t3],by simp only[go_sem,simprocAttr,L.t4],by simp only[go_sem,simprocAttr,L.t5],by simp only[go_sem,simprocAttr,L.t6],by simp only[go_sem,simprocAttr,L.t7],by simp only[go_sem,simprocAttr,L.t8],by simp only[go_sem,simprocAttr,t9]⟩,by simp only[go_sem,simprocAttr,t21],by simp only[go_sem,simprocAttr,t22],by simp only[go_sem,simprocAttr],J8.put _,by rw[List.length_set];exact hcl,?_⟩;rw[nR _ _ _ (by omega),hct,mA hget];rfl
  ·have:p=vs.length:=by omega
   subst this;rw[List.take_length,List.take_of_length_le (by omega)]at hct;subst hct;have t3:=L.t3;have t4:=L.t4;have t5:=L.t5;have t6:=L.t6;have t7:=L.t7;have t8:=L.t8;have g3:=J.g3;obtain⟨H1,hH1⟩:∃H1:AH,H1=((H.new (.box [wt 0])).new (.box [.nilp])).set (H.z+1) (.box [.ptr H.z 0 0]):=⟨_,rfl⟩
   have k1:HK H H1:=by subst hH1;exact((HK.new _ _).add _).set _ (by omega)
   have n1:H1.z=H.z+2:=by subst hH1;simp only[co,ci]
   have xc:H1.get H.z=some (.box [wt 0]):=by subst hH1;rw[an (by omega),aJ (by rw[ci];omega),aE]
   have xp:H1.get (H.z+1)=some (.box [.ptr H.z 0 0]):=by subst hH1;exact aC _ _ _
   have hbd:∀H:AH,cP H [wt 0] []=.val (.agg [wt 0]) H:=fun H=>rfl
   have hbx:gU H 1 (.agg [wt 0])=.val (.ptr H.z 0 0) (H.new (.box [wt 0])):=zP _ 1 rfl;have hst1:cR (.ptr (H.z+1) 0 0) ((H.new (.box [wt 0])).new (.box [.nilp])) 1 (.ptr H.z 0 0)=some H1:=by
    have e:((H.new (.box [wt 0])).new (.box [.nilp])).get (H.z+1)=some (.box [.nilp]):=by rw[<-ci H (.box [wt 0]),aE]
    rw[hH1,eF (v:=.ptr H.z 0 0) (H.z+1) 0 0 1 rfl rfl,e];rfl
   have J1:=J.up k1;have p0:UC vs (h.z+5) (H.z+1) (h.z+5+1+1) H.z (h.z+5+1) 0 (h.z+1+1) (h.z+1) 0 H1:=⟨J1.g8,xp,J1.g9,J1.gr,J1.g5,J1.g4,xc,Int.le_refl 0,by omega⟩;clear hH1;obtain⟨r,hbld⟩:=IZ vs (fun x hx=>(hvs x hx).2.1) t 0 (Int.le_refl 0) hv;obtain⟨o,H2,e2,k2,hb2⟩:=acC (cl:=cS K) (F:=249) (cap:=[.ptr (h.z+5) 0 0,.ptr (H.z+1) 0 0,.ptr (h.z+5+1+1) 0 0]) (P:=UC vs (h.z+5) (H.z+1) (h.z+5+1+1) H.z (h.z+5+1) 0 (h.z+1+1) (h.z+1))
    (Ov:=fun x=>4096<x) (pv:=.ifc 198 (wt 5)) (w:=H.z) (mv:=3) (Bp:=H.z+2) (Good:=fun t d=>Vb 30000 t/\0<=d) (step:=mN vs)
    (lW hK) (fun m k j h=>kp.c128 m k j h) (by simp[AV.ip,AV.norm]) (by simp[AV.beqs,AV.beq]) (aec vs) (fun _ _ h _=>by omega) (by omega)
    (fun n h1 h' q k=>⟨(k _ (by omega)).trans q.g8,(k _ (by omega)).trans q.g12,(k _ (by omega)).trans q.g9,(k _ (by omega)).trans q.gr,(k _ (by omega)).trans q.gd,(k _ (by omega)).trans q.gv,(k _ (by omega)).trans q.gc,q.n0,q.n1⟩)
    (fun t d a x g e=>⟨Hs g.1 e,by have:=(fO t.kind a).1;have:=g.2;omega⟩)
    (fun m t d n H hm g _ hd0 hd1 p hB=>by
     obtain⟨m,rfl⟩:∃m',m=m'+3:=⟨m-3,by omega⟩
     exact c249 hK m vs (fun x hx=>(hvs x hx).1) _ _ _ _ _ _ _ _ (H.z) ⟨by omega,by omega,by omega,by omega,by omega,by omega,by omega⟩ ⟨by omega,by omega,by omega,by omega,by omega,by omega⟩ t d n H p (by omega) (fun hk=>Ht g.1 hk) hd0 hd1)
    (m+4) t 0 0 H1 (by omega) (by omega) (Int.le_refl 0) (by omega) ⟨hv,Int.le_refl 0⟩ p0 (by omega)
   rw[hbld]at hb2;rcases hb2 with⟨rfl,_⟩|⟨_,q⟩
   case inr=>omega
   have n2:=k2.z;have f2:∀a,a<H.z->H2.get a=H.get a:=fun a q=>by rw[k2.kw a (by omega) (by omega),k1.kw a q]
   have g32:=(f2 _ (by omega)).trans J.g3;have g31:=J1.g3;have k02:HK h H2:=⟨by omega,fun a q=>by rw[f2 a (by omega)];exact J.kw.kw a q⟩;have nc:∀a b c:Nat,AV.ip [.ptr a 0 0,.ptr b 0 0,.ptr c 0 0]=[.ptr a 0 0,.ptr b 0 0,.ptr c 0 0]:=fun a b c=>by simp[AV.ip,AV.norm]
   obtain⟨H3,y,e3,k3,gy,y1,y2⟩:=c85 hK (m+3) 251 [.ptr (h.z+5) 0 0,.ptr (h.z+1) 0 0,.ptr (h.z+1+1) 0 0] (nc _ _ _) H2;have n3:=k3.z;have f3:∀a,a<H.z->H3.get a=H.get a:=fun a q=>by rw[k3.kw a (by omega),f2 a q]
   obtain⟨o,H4,e4,k4,hb4⟩:=acC (cl:=cS K) (F:=127) (cap:=[.ptr y 0 0]) (P:=fun _ H=>H.get y=some (.box [.fn 251 [] [.ptr (h.z+5) 0 0,.ptr (h.z+1) 0 0,.ptr (h.z+1+1) 0 0]])/\H.get (h.z+5)=some (.box [.fn 248 [] [.ptr (h.z+1+1) 0 0,.ptr (h.z+1) 0 0]])/\H.get (h.z+1+1)=some (.box [wt 0])/\H.get (h.z+1)=some (.box [.ls (vs.map enc)]))
    (Ov:=fun _=>False) (pv:=.nilf) (w:=H.z) (mv:=2020) (Bp:=y+1) (Good:=fun t d=>Vb 30000 t/\Lq t/\0<=d/\d+size t<=30000) (step:=jT (lA vs))
    (lW hK) (fun m k j h=>kp.c128 m k j h) (by simp[AV.ip,AV.norm]) (by simp[AV.beqs,AV.beq]) (Uo _) (fun _ _ h _=>h) (by omega)
    (fun n h h' q k=>⟨(k _ (by omega)).trans q.1,(k _ (by omega)).trans q.2.1,(k _ (by omega)).trans q.2.2.1,(k _ (by omega)).trans q.2.2.2⟩)
    (fun t d a x g e=>by
     have hb:=fO t.kind a;obtain⟨a1,a2,a3,a4⟩:=g;refine⟨Hs a1 e,a2.kid e,by omega,?_⟩;have:=ck e;cases t;simp only[T.K,T.kind,size]at *;omega)
    (fun m t d n H hm g _ hd0 hd1 p hB=>by
     obtain⟨m,rfl⟩:∃m',m=m'+4:=⟨m-4,by omega⟩
     obtain⟨a1,a2,a3,a4⟩:=g;obtain⟨o,H',e,k,hv⟩:=c127 hK kp (m+3) y 251 [.ptr (h.z+5) 0 0,.ptr (h.z+1) 0 0,.ptr (h.z+1+1) 0 0] (lA vs) t d H p.1 (by omega) a2 (fun hk H2 k2=>by
      obtain⟨i0,i1⟩:=Ht a1 hk;have:=k2.z;exact c251 hK kp m (by omega) vs hvs hvl _ _ _ t d H2 ((k2.kw _ (by omega)).trans p.2.1) ((k2.kw _ (by omega)).trans p.2.2.1) ((k2.kw _ (by omega)).trans p.2.2.2) (by omega) (by omega) (by omega) a2 i0 i1 a3 (by have:=cG t;omega))
     refine⟨o,H',e,k.x _,?_⟩;have hst:∃r b,jT (lA vs) t d=some (r,b,0):=by
      unfold jT;split<;>exact⟨_,_,rfl⟩
     obtain⟨r,b,hst⟩:=hst;rw[hst]at hv ⊢;rcases hv with⟨rfl,_⟩|⟨_,q⟩
     ·exact .inl ⟨rfl,(k.kw _ (by omega)).trans p.1,(k.kw _ (by omega)).trans p.2.1,(k.kw _ (by omega)).trans p.2.2.1,(k.kw _ (by omega)).trans p.2.2.2⟩
     ·exact q.elim)
    (m+4) t 0 0 H3 (by omega) (by omega) (Int.le_refl 0) (by omega) ⟨hv,hq,Int.le_refl 0,by omega⟩ ⟨gy,(f3 _ (by omega)).trans J.g8,(f3 _ (by omega)).trans J.g5,(f3 _ (by omega)).trans J.g4⟩ (by omega)
   rw[Hj,Cw vs t 0 hv]at hb4;rcases hb4 with⟨rfl,_⟩|⟨_,q⟩
   case inr=>exact q.elim
   have n4:=k4.z;have f4:∀a,a<H.z->H4.get a=H.get a:=fun a q=>by rw[k4.kw a (by omega) (by omega),f3 a q]
   have g64:=(f4 _ (by omega)).trans J.g6;have g74:=(f4 _ (by omega)).trans J.g7;have g33:=(f3 _ (by omega)).trans J.g3;have c246:=fun H=>kf.c246 (m+4) (gA vs t 0) (by omega) H
   have hs4:=aQ g64 (gA vs t 0);have hdp:decide ((200:Int)<(io (gA vs t 0):Int))=false:=HD (by omega);have k04:HK h H4:=⟨by omega,fun a q=>by rw[f4 a (by omega)];exact J.kw.kw a q⟩;revert e4 hs4 c246 hdp;generalize gA vs t 0=r;intro e4 c246 hs4 hdp;have bqx:AV.beq (.agg [wt t.kind,wt t.i,.str t.name,.ls (t.L.map aK),.ls (t.K.map enc)]) (.agg [wt t.kind,wt t.i,.str t.name,.ls (t.L.map aK),.ls (t.K.map enc)])=true:=by rw[<-aA];exact mW _
   have hbf:∀H':AH,cP H' [.nilf] [(0,1,.fn 249 [] [.ptr (h.z+5) 0 0,.ptr (H.z+1) 0 0,.ptr (h.z+5+1+1) 0 0])]=.val (.agg [.fn 249 [] [.ptr (h.z+5) 0 0,.ptr (H.z+1) 0 0,.ptr (h.z+5+1+1) 0 0]]) H':=fun H'=>rfl
   unfold au at g31 g32 g33 hs4;rw[aA t]at e2 e4;have er:=aA r;rw[aA r]at c246;have nne:¬h.z+1+1+1=h.z+1+1+1+1:=by omega
   have nne2:¬h.z+1+1+1+1=h.z+1+1+1:=by omega
   simp only[go_sem,simprocAttr,Qu,hbd,hbx,ci,hst1,Qv,t3,t4,t5,t6,t7,t8,t9,hbf,g31,e2,Qw,e3,g32,g33,e4,hs4,bqx,Qx,c246,hdp,Qy,nne2,g74];refine Hr (.inr rfl) (c247r (lW hK) (m+3) _ _ _) (vs:=[.agg [wt r.kind,wt r.i,.str r.name,.ls (r.L.map aK),.ls (r.K.map enc)],wt 0]) (by simp only[go_sem,simprocAttr,r207,t6,t7,nne]) ⟨_,_,bG (ae (iG (ir (eC _) (eL _)) _) (ae (ba _ _ _) (aB _))),rfl,rfl,?_⟩;exact((k04.set _ (by omega)).set _ (by omega)).set _ (by omega))
 obtain⟨o,rc,h',e,rfl,rfl,k⟩:=key;exact⟨h',e,k⟩
end
