/- SolverFinals: the law, for all stores, values and terms (no condition). -/
import Derived.Test.YtnacljdablhbgaaGreatGq
namespace Go.Proofs.YtnacljdablhbgaaGreat
open Go.AG
attribute [local go_sem] dB bJ bk bS bR ca cM
theorem Of (h:AH)(a b c d e z1 z2 z3 z4 z5:AV):iS true true 5 [z1,z2,z3,z4,z5] 6 [(0,5,.agg [a,b,c,d,e]),(5,5,.agg [a,b,c,d,e]),(10,5,.agg [a,b,c,d,e]),(15,5,.agg [a,b,c,d,e]),(20,5,.agg [a,b,c,d,e]),(25,5,.agg [a,b,c,d,e])] h=.val (.clip [.agg [a,b,c,d,e],.agg [a,b,c,d,e],.agg [a,b,c,d,e],.agg [a,b,c,d,e],.agg [a,b,c,d,e],.agg [a,b,c,d,e]]) h:=(rfl)
theorem Ea (x1 x2 x3 x4 x5 x6:AX)(tm:Tm)(sz:Nat):cr [(0,x1),(1,x2),(2,x3),(3,x4),(4,x5),(5,x6)] tm sz=[(0*sz,sz,ev x1 tm),(1*sz,sz,ev x2 tm),(2*sz,sz,ev x3 tm),(3*sz,sz,ev x4 tm),(4*sz,sz,ev x5 tm),(5*sz,sz,ev x6 tm)]:=(rfl)
theorem OV (h:AH)(a b c d e:AV)(x:Int):cP h [a,b,c,d,e] [(0,1,wt x)]=.val (.agg [wt x,b,c,d,e]) h:=(rfl)
def tP:T:=.mk 1 0 (bs []) [] []
def six:List T:=[tP,tP,tP,tP,tP,tP]
theorem fit_P:Fit tP:=.mk (by decide) (by decide) (by decide) (by decide) (by simp) (by decide) (by simp)
theorem XT (h:AH):eT (.clip [.agg [wt 1,wt 0,.str (bs []),.nl,.nl],.agg [wt 1,wt 0,.str (bs []),.nl,.nl],.agg [wt 1,wt 0,.str (bs []),.nl,.nl],.agg [wt 1,wt 0,.str (bs []),.nl,.nl],.agg [wt 1,wt 0,.str (bs []),.nl,.nl],.agg [wt 1,wt 0,.str (bs []),.nl,.nl]]) h=(.ls (six.map enc),h):=by
 rw[dG (by simp[AV.free,AV.jp])];simp[AV.norm,AV.ip,six,tP,enc,qB]
theorem XU (t:T)(h:AH):eT (.clip [.agg [wt t.kind,wt t.i,.str t.name,.ls (t.L.map aK),.ls (t.K.map enc)]]) h=(.ls ([t].map enc),h):=by
 rw[<-aA,dG (by simp[AV.free,AV.jp,cH])];simp[AV.norm,AV.ip,bL]
theorem uG (h:AH):eT .nl h=(.ls [],h):=by rw[dG (by simp[AV.free])];simp[AV.norm]
theorem c19 (s:SV)(t:T)(ft:Fit t)(m:Nat)(h:AH):
  ∃v h',cS K5 (m+1) (.fn 19 [] []) [od s,enc t] .no h=some (.ret v,.no,h')/\(∃b:Bool,v=.bool b/\(b=true->size t<=60/\Ok PL s.ms.length t 6))/\HK h h':=by
 refine cm zZ cf19 (ae (My _ _) (ae (aP _ _) (aB _))) ?_;simp only[wab];obtain⟨b,hb,e18⟩:=ace s.ms six [t] (by decide) (by intro x hx;simp[six]at hx;subst hx;exact fit_P) (by simp) (by intro x hx;simp at hx;subst hx;exact ft);have e18:=fun h=>dP (ae (mj s.ms h) (ae (XT h) (ae (XU t h) (aB h)))) (e18 [.ls (s.ms.map cD),.ls (six.map enc),.ls ([t].map enc)] h (by simp only[a18,AV.ip,AV.norm,mF,cu])) rfl m
 rw[aA t];unfold od b19;obtain⟨H,hH⟩:∃H:AH,H=((h.new (.box [.ls (s.ms.map cD),.ls (s.qs.map gC),.ls (s.bs.map cQ),wt s.n])).new (.box [wt t.kind,wt t.i,.str t.name,.ls (t.L.map aK),.ls (t.K.map enc)])).new (.box [wt 0,wt 0,.str (bs []),.nl,.nl]):=⟨_,rfl⟩
 have k0:HK h H:=by subst hH;exact((HK.new _ _).add _).add _
 have n0:H.z=h.z+3:=by subst hH;simp only[ci]
 have g2:H.get h.z=some (.box [.ls (s.ms.map cD),.ls (s.qs.map gC),.ls (s.bs.map cQ),wt s.n]):=by subst hH;rw[aJ (by simp only[ci];omega),aJ (by simp only[ci];omega),aE]
 have g3:H.get (h.z+1)=some (.box [wt t.kind,wt t.i,.str t.name,.ls (t.L.map aK),.ls (t.K.map enc)]):=by
  subst hH;rw[aJ (by simp only[ci];omega),<-ci h (.box [.ls (s.ms.map cD),.ls (s.qs.map gC),.ls (s.bs.map cQ),wt s.n]),aE]
 have g5:H.get (h.z+1+1)=some (.box [wt 0,wt 0,.str (bs []),.nl,.nl]):=by
  subst hH;have:h.z+1+1=((h.new (.box [.ls (s.ms.map cD),.ls (s.qs.map gC),.ls (s.bs.map cQ),wt s.n])).new (.box [wt t.kind,wt t.i,.str t.name,.ls (t.L.map aK),.ls (t.K.map enc)])).z:=by simp only[ci]
  rw[this,aE]
 simp only[go_sem,simprocAttr,abb,OV,ci];rw[<-hH];clear hH;simp only[go_sem,simprocAttr,g5];obtain⟨H2,hH2⟩:∃H2:AH,H2=H.set (h.z+1+1) (.box [wt 1,wt 0,.str (bs []),.nl,.nl]):=⟨_,rfl⟩
 rw[<-hH2];replace k0:HK h H2:=by subst hH2;exact k0.set _ (by omega)
 replace g2:=(show H2.get h.z=_ by subst hH2;exact an (by omega)).trans g2;replace g3:=(show H2.get (h.z+1)=_ by subst hH2;exact an (by omega)).trans g3;replace g5:H2.get (h.z+1+1)=some (.box [wt 1,wt 0,.str (bs []),.nl,.nl]):=by subst hH2;exact aC _ _ _
 clear hH2;simp only[go_sem,simprocAttr,abc,g2,g5,g3,Ea,Of,e18];exact⟨rfl,rfl,.inr rfl,[.bool b],by simp only[go_sem,simprocAttr,r19],_,_,rfl,⟨b,rfl,fun q=>by
  obtain⟨_,hs⟩:=hb q;exact hs t (by simp)⟩,k0⟩
theorem c16l (m:Nat)(h:AH):∃h',cS K5 (m+1) (.fn 16 [] []) [] .no h=some (.ret (.ptr h.z 0 0),.no,h')/\HK h h'/\Cn h' h.z (some 0)/\h.z<h'.z:=by
 have hr:Rn (cS K5) 16:=zu K5_16 (by decide) (by decide);have key:=hr m [] [] _ .no h _ _ _ _ (fun o rc h'=>rc=.no/\o=.ret (.ptr h.z 0 0)/\HK h h'/\Cn h' h.z (some 0)/\h.z<h'.z) cf16 (aB _) (by
  unfold b16;have eb:∀h:AH,cP h [wt 0,wt 0,wt 0,wt 0,.bool false] [(3,1,wt 1000)]=.val (.agg [wt 0,wt 0,wt 0,wt 1000,.bool false]) h:=fun _=>rfl
  have ep:∀tm:Tm,eW [(3,1,AX.c (wt 1000))] tm=[(3,1,wt 1000)]:=fun _=>rfl
  simp only[go_sem,simprocAttr,abg,ep,eb];refine iv (.inr rfl) (vs:=[.ptr h.z 0 0]) (by simp only[go_sem,simprocAttr,r16]) ⟨_,_,cC (by intro l e;cases e) (dh _ _ _ _),rfl,rfl,?_,?_,?_⟩
  ·exact HK.new _ _
  ·exact⟨by omega,by omega,aE _ _⟩
  ·simp only[ci];omega)
 obtain⟨o,rc,h',e,rfl,rfl,k⟩:=key;exact⟨h',e,k⟩
theorem Dz {vals:List LL}(g:GV vals)(out r:LL)(x:LV)(h:fy vals (some out) x=some r):r.v.length<=out.v.length+8:=by
 unfold fy at h;simp only at h;split at h
 ·rename_i hin;cases hy:vals[(-1-x.i).toNat]? with
  |none=>rw[hy]at h;simp at h;subst h;omega
  |some y=>
   rw[hy]at h;simp only at h;split at h
   ·cases h;have h1:=hT out.v (eu y x.p).1.v;have h2:=sn y x.p;have h3:=g.v y (wS hy);show(bK out.v (eu y x.p).1.v).length<=_;omega
   ·cases h
 ·cases h;have h1:=hT out.v [x];show(bK out.v [x]).length<=_;simp only[List.length_cons,List.length_nil]at h1;omega
theorem Ck {vals:List LL}(g:GV vals):∀(vs:List LV) (out r:LL),vs.foldl (fy vals) (some out)=some r->r.v.length<=out.v.length+8*vs.length
 |[],out,r,h=>by cases h;simp
 |x::vs,out,r,h=>by
  rw[List.foldl_cons]at h;cases h1:fy vals (some out) x with
  |none=>rw[h1,vk]at h;cases h
  |some o2=>
   rw[h1]at h;have:=Ck g vs o2 r h;have:=Dz g out o2 x h1;simp only[List.length_cons];omega
theorem Nt {vals:List LL}(g:GV vals)(l:LL)(hl:PL l):(dX l vals).1.v.length<=200:=by
 unfold dX;cases h:repS l vals with
 |none=>simp
 |some r=>
  have h1:r.v.length<=0+8*l.v.length:=Ck g l.v ⟨l.c,[]⟩ r h;have:=hl.2;show r.v.length<=200;omega
theorem wB:yB tZ:=.mk (by simp) (by simp) (by simp) (by simp)
theorem Pe {vals:List LL}(g:GV vals):∀(n:Nat) (t:T),size t<=n->n<=2000->Lq t->yB (pP vals t):=by
 intro n;induction n with
 |zero=>intro t h;have:=cG t;omega
 |succ n ih=>
  intro t h hn hq;have hl:=hq.ls;have hk:=fun a x e=>hq.kid (a:=a) (x:=x) e
  obtain⟨k,i,nm,ls,ks⟩:=t;simp only[T.L,T.K]at hl hk;simp only[size]at h;have hlen:=bE ks;unfold pP;rw[sQ];refine .mk (by rw[waa];omega) (fun x hx=>?_) (by rw[waa];omega) (fun x hx=>?_)
  ·obtain⟨y,hy,rfl⟩:=List.mem_map.1 hx;have:=Nt g y (hl.2 y hy);omega
  ·obtain⟨y,hy,rfl⟩:=List.mem_map.1 hx;obtain⟨a,ha,rfl⟩:=wag.1 hy;have hs:=ck (wO ha);exact ih _ (by omega) (by omega) (hk a _ (wO ha))
theorem OA {ms:List MV}{vals:List LL}(g:GV vals)(gm:wb ms){t:T}{d:Int}(hs:size t<=60)(hd0:0<=d)(hok:Ok PL ms.length t d):yB (finR ms vals t).1:=by
 have key:=fun f h0 h1=>vQ gm hs hd0 hok (c:=some 0) (f:=f) h0 h1
 unfold finR;revert key;generalize FillR ms t (some 0)=q;intro key;cases hq:q.2.2 with
 |none=>exact wB
 |some f=>
  simp only;split
  ·exact wB
  ·rename_i h0;obtain⟨sz,_,okx⟩:=key f (by simpa using h0) hq;split
   ·exact wB
   ·split
    ·unfold fj;split
     ·exact wB
     ·exact Pe g 2000 q.1 sz (Fv _) ⟨_,_,okx⟩
    ·exact wB
attribute [local go_sem] dB bJ bk bS bR ca cM
def I5 (vals:List LL)(a b:Nat)(H:AH)(j:Nat)(fr:AF)(h:AH):Prop:=∃tm m,m+j=vals.length/\fr=⟨tm,⟨[],.no,none,5⟩⟩/\h=H/\nth tm 1=.ls (vals.map aK)/\nth tm 3=.ptr a 0 0/\nth tm 5=.ptr b 0 0/\nth tm 7=wt (m:Int)/\
 ∀(k:Nat) y,k<m->vals[k]?=some y->VL y/\y.v.length<=8
theorem law5 (s:SV)(vals:List LL)(t:T)(fs:Me s)(hv:∀y∈vals,y.v.length<1125899906842624)(ft:Fit t)(h:AH):
  ∃v h',dZ EG (cS K5 20602) 60000 5 [od s,.ls (vals.map aK),enc t] .no h=some (.ret v,.no,h')/\v=.bool true:=by
 refine nw (cfG cf5) (tw 5) (P:=fun v _=>v=.bool true) ?_;have fin:∀tm H,nth tm 6=.bool true->IQ r5 (fun v _=>v=.bool true) .ret ⟨tm,⟨[],.no,none,5⟩⟩ H:=fun tm H t6=>
  ⟨rfl,rfl,.inr rfl,[.bool true],by simp only[go_sem,simprocAttr,r5,t6],rfl⟩
 obtain⟨b12,hb12,k12⟩:=K5_12 s fs;have e12:=fun h=>dP (ae (My s h) (aB h)) (k12 h) rfl 20602
 obtain⟨b18,_,k18⟩:=ace s.ms [] [] (by simp) (by simp) (by simp) (by simp);have e18:=fun h=>dP (ae (mj s.ms h) (ae (uG h) (ae (uG h) (aB h)))) (k18 [.ls (s.ms.map cD),.ls [],.ls []] h (by simp[a18,AV.ip,AV.norm,mF])) rfl 20602
 obtain⟨b20,k20⟩:=K5_20 t s.n ft;have e20:=fun h=>dP (ae (aP t h) (ae (ba _ _ h) (aB h))) (k20 h) rfl 20602
 have e13:=fun h=>dP (aB h) (K5_13 h) rfl 20602
 have c19':=fun h=>c19 s t ft 20601 h
 have c22':=fun(g:GV vals) (gm:G48 s.ms) (hs:size t<=60) (hok:Ok PL s.ms.length t 6) w H=>c22 zZ K5_KC K5_KD K5_KE (K5_KL g) (by have:=g.len;omega) s gm.good w t 6 H hs (by omega) (by omega) hok
 have c23':=fun(g:GV vals) (gm:G48 s.ms) (hs:size t<=60) (hok:Ok PL s.ms.length t 6) H=>c23 zZ K5_KB K5_KF K5_KP (K5_KA g) (by have:=g.len;omega) s gm.good gm.sz t 6 H hs (by omega) (by omega) hok
 have hthin:=fun(g:GV vals) (gm:G48 s.ms) (hs:size t<=60) (hok:Ok PL s.ms.length t 6)=>OA g gm.good hs (by omega) hok
 have lv:∀H,lenOf (.ls (vals.map aK)) H 1=some vals.length:=fun H=>by rw[dL,waa]
 rw[aA t]at e20 c19' c22' c23' ⊢;unfold od at e12 c19' c22' c23' ⊢;unfold b5;obtain⟨H,hH⟩:∃H:AH,H=(h.new (.box [.ls (s.ms.map cD),.ls (s.qs.map gC),.ls (s.bs.map cQ),wt s.n])).new (.box [wt t.kind,wt t.i,.str t.name,.ls (t.L.map aK),.ls (t.K.map enc)]):=⟨_,rfl⟩
 have n0:H.z=h.z+2:=by subst hH;simp only[ci]
 have g3:H.get h.z=some (.box [.ls (s.ms.map cD),.ls (s.qs.map gC),.ls (s.bs.map cQ),wt s.n]):=by subst hH;rw[aJ (by simp only[ci];omega),aE]
 have g5:H.get (h.z+1)=some (.box [wt t.kind,wt t.i,.str t.name,.ls (t.L.map aK),.ls (t.K.map enc)]):=by
  subst hH;rw[<-ci h (.box [.ls (s.ms.map cD),.ls (s.qs.map gC),.ls (s.bs.map cQ),wt s.n]),aE]
 simp only[go_sem,simprocAttr];rw[<-hH];clear hH;cases b12 with
 |false=>
  simp only[go_sem,simprocAttr,ci,MF,g3,e12,e13];exact fin _ _ (by simp only[go_sem,simprocAttr])
 |true=>
  have gm:=hb12 rfl;by_cases h20:(20:Int)<(vals.length:Int)
  ·have d1:=HE h20;simp only[go_sem,simprocAttr,ci,MF,g3,e12,lv,d1,e13];exact fin _ _ (by simp only[go_sem,simprocAttr])
  have d1:=HD h20;cases b18 with
  |false=>
   simp only[go_sem,simprocAttr,ci,MF,g3,e12,lv,d1,e18,e13];exact fin _ _ (by simp only[go_sem,simprocAttr])
  |true=>
   obtain⟨_,H1,e19,⟨b19,rfl,hb19⟩,k1⟩:=c19' H;have n1:=k1.z;have g31:=(k1.kw _ (by omega)).trans g3;have g51:=(k1.kw _ (by omega)).trans g5;cases b19 with
   |false=>
    simp only[go_sem,simprocAttr,ci,MF,g3,g5,e12,lv,d1,e18,e19,e13];exact fin _ _ (by simp only[go_sem,simprocAttr])
   |true=>
    obtain⟨hs,hok⟩:=hb19 rfl;cases b20 with
    |false=>
     simp only[go_sem,simprocAttr,ci,MF,g3,g5,e12,lv,d1,e18,e19,g31,g51,e20,e13];exact fin _ _ (by simp only[go_sem,simprocAttr])
    |true=>
     simp only[go_sem,simprocAttr,ci,MF,g3,g5,e12,lv,d1,e18,e19,g31,g51,e20,s5_7];refine bD (I5 vals h.z (h.z+1) H1) vals.length (by omega) ⟨_,0,wac _,rfl,rfl,by simp only[go_sem,simprocAttr],by simp only[go_sem,simprocAttr],by simp only[go_sem,simprocAttr],by simp only[go_sem,simprocAttr],fun a t ha=>absurd ha (Nat.not_lt_zero _)⟩ ?_;rintro j fr hh ⟨tm,m,hm,rfl,rfl,t1,t3,t5,t7,hw⟩;unfold b5_1;simp only[go_sem,simprocAttr,t1,t7,lv];refine bj (fun hlt=>?_) (fun hge=>?_)
     ·have hlt:m<vals.length:=by omega
      obtain⟨y,hy⟩:∃y,vals[m]?=some y:=⟨_,wO hlt⟩
      have ia:=fun h=>aN dj hy .i64 h
      have ell:aK y=.agg [wt y.c,.ls (y.v.map encV)]:=rfl;obtain⟨b21,hb21,k21⟩:=K5_21 y (hv y (wS hy));have e21:=fun h=>dP (ae (tA y h) (aB h)) (k21 h) rfl 20602
      have ly:∀H,lenOf (.ls (y.v.map encV)) H 1=some y.v.length:=fun H=>by rw[dL,waa]
      rw[ell]at ia e21;have hw2:=aM m (by omega);cases b21 with
      |false=>
       simp only[go_sem,simprocAttr,ack,t1,t7,ia,e21,e13];exact fin _ _ (by simp only[go_sem,simprocAttr])
      |true=>
       by_cases h8:(8:Int)<(y.v.length:Int)
       ·have d2:=HE h8;simp only[go_sem,simprocAttr,ack,t1,t7,ia,e21,ly,d2,e13];exact fin _ _ (by simp only[go_sem,simprocAttr])
       ·have d2:=HD h8;simp only[go_sem,simprocAttr,ack,t1,t7,ia,e21,ly,d2,hw2];refine⟨j-1,by omega,_,m+1,by omega,rfl,rfl,by simp only[go_sem,simprocAttr,t1],by simp only[go_sem,simprocAttr,t3],by simp only[go_sem,simprocAttr,t5],by simp only[go_sem,simprocAttr],fun a x hlt' hat=>?_⟩;rcases Nat.lt_or_ge a m with h|h
        ·exact hw a x h hat
        ·have:a=m:=by omega
         subst this;rw[hy]at hat;cases hat;have:=hb21 (by omega);exact⟨by simpa [vl] using this.symm,by omega⟩
     ·have hme:m=vals.length:=by omega
      have g:GV vals:=⟨by omega,fun y hy=>by
       obtain⟨a,ha,rfl⟩:=wag.1 hy;exact(hw a _ (by omega) (wO ha)).2,fun y hy=>by
       obtain⟨a,ha,rfl⟩:=wag.1 hy;exact(hw a _ (by omega) (wO ha)).1⟩
      obtain⟨H2,e16,k2,hc2,lt2⟩:=c16l 20601 hh;have g32:=(k2.kw _ (by omega)).trans g31;have g52:=(k2.kw _ (by omega)).trans g51;obtain⟨_,H3,e22,rfl,k3,hc3⟩:=c22' g gm hs hok hh.z H2 hc2 lt2;have c23':=c23' g gm hs hok;have hthin:=hthin g gm hs hok;have n3:=k3.z;have g33:=(k3.kw _ (by omega) (by omega)).trans g32;have g53:=(k3.kw _ (by omega) (by omega)).trans g52;revert c23' hthin e22 hc3;generalize finR s.ms vals t=Q;generalize (FillR s.ms t (some 0)).2.2=cq;intro e22 hc3 c23' hthin;have hst:=aQ (h:=H3.new (.box [wt 0,wt 0,.str (bs []),.nl,.nl])) (k:=H3.z) (aE _ _) Q.1;obtain⟨H4,hH4⟩:∃H4:AH,H4=(H3.new (.box [wt 0,wt 0,.str (bs []),.nl,.nl])).set H3.z (.box (au Q.1)):=⟨_,rfl⟩
      have k4:HK H3 H4:=by subst hH4;exact HK.new_set _ _ _
      have x4:H4.get H3.z=some (.box (au Q.1)):=by subst hH4;exact aC _ _ _
      have n4:H4.z=H3.z+1:=by subst hH4;simp only[co,ci]
      rw[<-hH4]at hst;clear hH4;have hc4:=hc3.kw (k4.kw hh.z (by omega));have g34:=(k4.kw _ (by omega)).trans g33;have g54:=(k4.kw _ (by omega)).trans g53;cases cq with
      |none=>
       obtain⟨f,gw⟩:=hc4;simp only[go_sem,simprocAttr,t1,t3,t5,aeq,e16,aer,g32,g52,e22,hst,aes,gw,e13];exact fin _ _ (by simp only[go_sem,simprocAttr])
      |some f=>
       have gw:=hc4.2.2;obtain⟨_,H5,e23,rfl,k5⟩:=c23' H4 f rfl;have n5:=k5.z;have x5:=(k5.kw _ (by omega)).trans x4;have hst6:=aQ (h:=H5.new (.box [wt 0,wt 0,.str (bs []),.nl,.nl])) (k:=H5.z) (aE _ _) Q.1;obtain⟨H6,hH6⟩:∃H6:AH,H6=(H5.new (.box [wt 0,wt 0,.str (bs []),.nl,.nl])).set H5.z (.box (au Q.1)):=⟨_,rfl⟩
       have k6:HK H5 H6:=by subst hH6;exact HK.new_set _ _ _
       have x6:H6.get H5.z=some (.box (au Q.1)):=by subst hH6;exact aC _ _ _
       rw[<-hH6]at hst6;clear hH6;have y6:=(k6.kw _ (by omega)).trans x5;have e11:=fun h=>dP (ae (aP Q.1 h) (ae (aP Q.1 h) (aB h))) (K5_11 Q.1 hthin h) rfl 20602
       rw[aA Q.1]at e11;unfold au at x6 y6;have hq:decide (Q.2=Q.2)=true:=HE rfl;simp only[go_sem,simprocAttr,t1,t3,t5,aeq,e16,aer,g32,g52,e22,hst,aes,gw,s5_3,g34,g54,e23,hst6,s5_2,e13,x6,y6,e11];exact fin _ _ (by simp only[go_sem,simprocAttr])
