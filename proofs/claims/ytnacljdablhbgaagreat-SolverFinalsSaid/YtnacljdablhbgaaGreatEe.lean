/- SolverFinishes: Same of levels; whether a store is good (no condition). -/
import Derived.Test.YtnacljdablhbgaaGreatEd
noncomputable section
namespace Go.Proofs.YtnacljdablhbgaaGreat
open Go.AG
attribute [local go_sem] dB bJ bk bS bR ca cM
structure GoodS (s:SV)(n:Nat):Prop where
 hn:s.n=(n:Int)
 n20:n<=20
 ms:s.ms.length<=8
 qs:s.qs.length<=5
 bs:s.bs.length<=8
 ok:∀b∈s.bs,Okb n b/\b.1.v.length<=8/\b.2.v.length<=8
def isG (s:SV)(v:AV):Prop:=∃b,v=.bool b/\(b=true->∃n,GoodS s n)
theorem Br (s:SV):isG s (.bool false):=⟨false,rfl,fun h=>by cases h⟩
def bx (s:SV):eI:=.box [.ls (s.ms.map cD),.ls (s.qs.map gC),.ls (s.bs.map cQ),wt s.n]
structure J12 (s:SV)(h0 h:AH):Prop where
 g:h.get h0.z=some (bx s)
 z:h0.z<h.z
 low:h0.z<=h.low
theorem J12.fin {s:SV}{h0 h:AH}(J:J12 s h0 h)(tm:Tm)(v:AV)(hv:isG s v)(hf:∀m H b,frz m H b v=v)(hr:nth tm 2=v):HQ h0 r12 (Gx (isG s) h0) .ret ⟨tm,⟨[],.no,none,12⟩⟩ h:=
 ez (.inr rfl) J.low (by have:=J.z;omega) (by simp only[go_sem,simprocAttr,r12];rfl) (by rw[gP,hr,hf];exact hv)
theorem t12_8 {K:aG}(hK:jR K)(hv:KV K)(m0:Nat)(s:SV)(n:Nat)(hsn:s.n=(n:Int))(h1:n<=20)(h2:s.ms.length<=8)(h3:s.qs.length<=5)(h4:s.bs.length<=8)(h5:∀b∈s.bs,b.1.v.length<=8/\b.2.v.length<=8)
  (h0 H:AH) (J:J12 s h0 H) (tm:Tm) (t1:nth tm 1=.ptr h0.z 0 0):R (cK K (m0+1)) 30000 [.code Vz] (HQ h0 r12 (Gx (isG s) h0)) .normal ⟨tm,⟨[],.no,none,12⟩⟩ H:=by
 obtain⟨v,nx1,w1,w2,i,e,rfl,w3,_⟩:=c50 hK hv m0 n s.bs H (by omega) (by omega) (fun b hb=>by have:=h5 b hb;omega);rw[<-hsn]at w2;obtain⟨nx,lo,ob⟩:=H;have g1:ob.get h0.z=some (.box [.ls (s.ms.map cD),.ls (s.qs.map gC),.ls (s.bs.map cQ),wt s.n]):=J.g;have w1:nx<=nx1:=w1;simp only[go_sem,simprocAttr,Vz,t1,g1,w2,abh];have J2:J12 s h0 ⟨nx1,lo,ob⟩:=⟨J.g,Nat.lt_of_lt_of_le J.z w1,J.low⟩;refine J2.fin _ (.bool (decide (e=0))) ⟨_,rfl,fun hd=>?_⟩ (fun m H b=>eN m b _) (by simp only[go_sem,simprocAttr]);have:=w3 (of_decide_eq_true hd);exact⟨n,hsn,h1,h2,h3,h4,fun b hb=>⟨this b hb,h5 b hb⟩⟩
def I12c (s:SV)(h0:AH)(j:Nat)(fr:AF)(h:AH):Prop:=∃tm m,m+j=s.bs.length/\fr=⟨tm,⟨[],.no,none,12⟩⟩/\J12 s h0 h/\nth tm 1=.ptr h0.z 0 0/\nth tm 6=wt (m:Int)/\∀b∈s.bs.take m,b.1.v.length<=8/\b.2.v.length<=8
theorem vH (b:LL×LL)(h:AH):eM (.vptr (cQ b)) h 0 2 true=.val (.vptr (.agg [wt b.1.c,.ls (b.1.v.map encV)])) h:=(rfl)
theorem CN (b:LL×LL)(h:AH):eM (.vptr (cQ b)) h 2 2 true=.val (.vptr (.agg [wt b.2.c,.ls (b.2.v.map encV)])) h:=(rfl)
theorem t12_9 {K:aG}(hK:jR K)(hv:KV K)(m0:Nat)(s:SV)(n:Nat)(hsn:s.n=(n:Int))(h1:n<=20)(h2:s.ms.length<=8)(h3:s.qs.length<=5)(h4:s.bs.length<=8)
  (h0 H:AH) (J:J12 s h0 H) (tm:Tm) (t1:nth tm 1=.ptr h0.z 0 0):R (cK K (m0+1)) 30000 [.code Vy] (HQ h0 r12 (Gx (isG s) h0)) .normal ⟨tm,⟨[],.no,none,12⟩⟩ H:=by
 have hlen:∀H,lenOf (.ls (s.bs.map cQ)) H 1=some s.bs.length:=fun H=>by rw[dL,waa]
 simp only[go_sem,simprocAttr,Vy];refine bD (I12c s h0) s.bs.length (by omega) ⟨_,0,wac _,rfl,J,by simp only[go_sem,simprocAttr,t1],by simp only[go_sem,simprocAttr],by simp⟩ ?_;clear J t1;rintro j fr H ⟨tm,m,hm,rfl,J,t1,t6,hA⟩;obtain⟨nx,lo,ob⟩:=H;have g1:ob.get h0.z=some (.box [.ls (s.ms.map cD),.ls (s.qs.map gC),.ls (s.bs.map cQ),wt s.n]):=J.g;unfold ab7;simp only[go_sem,simprocAttr,t1,t6,g1,hlen];refine bj (fun hlt=>?_) (fun hge=>?_)
 ·have hlt:m<s.bs.length:=by omega
  obtain⟨b,hbq⟩:∃b,s.bs[m]?=some b:=⟨_,wO hlt⟩
  have ia:=fun H=>aN nI hbq .i64 H
  have hw2:=aM m (by omega);by_cases l1:(8:Int)<(b.1.v.length:Int)
  ·have d1:=HE l1;simp only[go_sem,simprocAttr,Mp,t1,t6,g1,ia,vH,d1];exact J.fin _ _ (Br s) (fun m H b=>eN m b _) (by simp only[go_sem,simprocAttr])
  ·have d1:=HD l1;by_cases l2:(8:Int)<(b.2.v.length:Int)
   ·have d2:=HE l2;simp only[go_sem,simprocAttr,Mp,t1,t6,g1,ia,vH,CN,d1,d2];exact J.fin _ _ (Br s) (fun m H b=>eN m b _) (by simp only[go_sem,simprocAttr])
   ·have d2:=HD l2;simp only[go_sem,simprocAttr,Mp,t1,t6,g1,ia,vH,CN,d1,d2,hw2];exact⟨j-1,by omega,_,m+1,by omega,rfl,J,by simp only[go_sem,simprocAttr,t1],by simp only[go_sem,simprocAttr],qN hbq hA ⟨by omega,by omega⟩⟩
 ·have hme:m=s.bs.length:=by omega
  subst hme;rw[List.take_length]at hA;simp only[go_sem,simprocAttr];exact t12_8 hK hv m0 s n hsn h1 h2 h3 h4 hA h0 _ J _ (by simp only[go_sem,simprocAttr,t1])
attribute [local go_sem] dB bJ bk bS bR ca cM
structure UD (m:MV):Prop where
 ty:Fit m.ty
 val:Fit m.val
structure afb (q:QV):Prop where
 len:q.ctx.length<1125899906842624
 ctx:∀t∈q.ctx,Fit t
 lt:Fit q.lt
 rt:Fit q.rt
structure Me (s:SV):Prop where
 lm:s.ms.length<1125899906842624
 ms:∀m∈s.ms,UD m
 lq:s.qs.length<1125899906842624
 qs:∀q∈s.qs,afb q
 lb:s.bs.length<1125899906842624
 bs:∀b∈s.bs,b.1.v.length<1125899906842624/\b.2.v.length<1125899906842624
structure KG (K:aG):Prop where
 r48:∀(ms:List MV),ms.length<1125899906842624->(∀m∈ms,UD m)->∃b:Bool,(b=true->ms.length<=8)/\∀h,K (.fn 48 [] []) [.ls (ms.map cD)] .no h=some (.ret (.bool b),.no,h)
 r20:∀t (n:Int),Fit t->∃b:Bool,∀a h,AV.ip a=[enc t,wt n]->K (.fn 20 [] []) a .no h=some (.ret (.bool b),.no,h)
 r18:∀(ms:List MV) (ctx ts:List T),ms.length<1125899906842624->ctx.length<1125899906842624->(∀t∈ctx,Fit t)->ts.length<1125899906842624->(∀t∈ts,Fit t)->∃b:Bool,∀a h,AV.ip a=[.ls (ms.map cD),.ls (ctx.map enc),.ls (ts.map enc)]->K (.fn 18 [] []) a .no h=some (.ret (.bool b),.no,h)
 r49:∀(n:Int) (ctx:List T),ctx.length<1125899906842624->(∀t∈ctx,Fit t)->∃b:Bool,∀h,K (.fn 49 [] []) [wt n,.ls (ctx.map enc)] .no h=some (.ret (.bool b),.no,h)
theorem Lk (m:MV):(cD m).norm=cD m:=by simp[cD,AV.norm,AV.ip,fB,cu]
theorem mF (l:List MV):AV.ip (l.map cD)=l.map cD:=by
 induction l with
 |nil=>rfl
 |cons x l ih=>rw[List.map_cons,AV.ip,ih,Lk]
theorem re (m:MV)(h:AH):eM (.vptr (cD m)) h 0 5 true=.val (.vptr (enc m.ty)) h:=by rw[aA];rfl
theorem vG (m:MV)(h:AH):eM (.vptr (cD m)) h 6 5 true=.val (.vptr (enc m.val)) h:=by rw[aA];rfl
theorem oA (h:AH)(a b c d e a' b' c' d' e' z1 z2 z3 z4 z5:AV):iS true true 5 [z1,z2,z3,z4,z5] 2 [(0,5,.agg [a,b,c,d,e]),(5,5,.agg [a',b',c',d',e'])] h=.val (.clip [.agg [a,b,c,d,e],.agg [a',b',c',d',e']]) h:=(rfl)
theorem iW (i j:Nat)(x y:AX)(tm:Tm)(sz:Nat):cr [(i,x),(j,y)] tm sz=[(i*sz,sz,ev x tm),(j*sz,sz,ev y tm)]:=(rfl)
attribute [local go_sem] oA iW
theorem J12.new {s:SV}{h0:AH}{nx lo:Nat}{ob:Tr eI}(J:J12 s h0 ⟨nx,lo,ob⟩)(x y:eI):J12 s h0 ⟨nx+1,gz nx lo,(ob.put nx x).put nx y⟩:=by
 have h1:h0.z<nx:=J.z;have h2:h0.z<=lo:=J.low;exact⟨by rw[cp,Tr.cA _ _ (by omega),Tr.cA _ _ (by omega)];exact J.g,by show h0.z<nx+1;omega,bo (by omega) h2⟩
def I12b (s:SV)(h0:AH)(j:Nat)(fr:AF)(h:AH):Prop:=∃tm m,m+j=s.qs.length/\fr=⟨tm,⟨[],.no,none,12⟩⟩/\J12 s h0 h/\nth tm 1=.ptr h0.z 0 0/\nth tm 4=wt (m:Int)
theorem acT {K:aG}(hK:jR K)(hv:KV K)(hg:KG K)(m0:Nat)(s:SV)(fs:Me s)(n:Nat)(hsn:s.n=(n:Int))(h1:n<=20)(h2:s.ms.length<=8)(h3:s.qs.length<=5)(h4:s.bs.length<=8)
  (h0 H:AH) (J:J12 s h0 H) (tm:Tm) (t1:nth tm 1=.ptr h0.z 0 0):R (cK K (m0+1)) 30000 [.code Gy] (HQ h0 r12 (Gx (isG s) h0)) .normal ⟨tm,⟨[],.no,none,12⟩⟩ H:=by
 have hlen:∀H,lenOf (.ls (s.qs.map gC)) H 1=some s.qs.length:=fun H=>by rw[dL,waa]
 simp only[go_sem,simprocAttr,Gy];refine bD (I12b s h0) s.qs.length (by omega) ⟨_,0,wac _,rfl,J,by and_intros<;>simp only[go_sem,simprocAttr,t1]⟩ ?_;clear J t1;rintro j fr H ⟨tm,m,hm,rfl,J,t1,t4⟩;obtain⟨nx,lo,ob⟩:=H;have g1:ob.get h0.z=some (.box [.ls (s.ms.map cD),.ls (s.qs.map gC),.ls (s.bs.map cQ),wt s.n]):=J.g;unfold ab8;simp only[go_sem,simprocAttr,t1,t4,g1,hlen];refine bj (fun hlt=>?_) (fun hge=>?_)
 ·have hlt:m<s.qs.length:=by omega
  obtain⟨q,hq⟩:∃q,s.qs[m]?=some q:=⟨_,wO hlt⟩
  obtain⟨f1,f2,f3,f4⟩:=fs.qs q (wS hq);have ia:=fun H=>aN uC hq .i64 H
  have eq:gC q=.agg [.ls (q.ctx.map enc),wt q.lt.kind,wt q.lt.i,.str q.lt.name,.ls (q.lt.L.map aK),.ls (q.lt.K.map enc),wt q.rt.kind,wt q.rt.i,.str q.rt.name,.ls (q.rt.L.map aK),.ls (q.rt.K.map enc),.bool q.sub]:=rfl;rw[eq]at ia;have hw2:=aM m (by omega);have JJ:=J.new (.box [.nl,wt 0,wt 0,.str (bs []),.nl,.nl,wt 0,wt 0,.str (bs []),.nl,.nl,.bool false]) (.box [.ls (q.ctx.map enc),wt q.lt.kind,wt q.lt.i,.str q.lt.name,.ls (q.lt.L.map aK),.ls (q.lt.K.map enc),wt q.rt.kind,wt q.rt.i,.str q.rt.name,.ls (q.rt.L.map aK),.ls (q.rt.K.map enc),.bool q.sub]);obtain⟨ob2,hob2⟩:∃ob2,ob2=(ob.put nx (.box [.nl,wt 0,wt 0,.str (bs []),.nl,.nl,wt 0,wt 0,.str (bs []),.nl,.nl,.bool false])).put nx (.box [.ls (q.ctx.map enc),wt q.lt.kind,wt q.lt.i,.str q.lt.name,.ls (q.lt.L.map aK),.ls (q.lt.K.map enc),wt q.rt.kind,wt q.rt.i,.str q.rt.name,.ls (q.rt.L.map aK),.ls (q.rt.K.map enc),.bool q.sub]):=⟨_,rfl⟩
  have g5:ob2.get nx=some (.box [.ls (q.ctx.map enc),wt q.lt.kind,wt q.lt.i,.str q.lt.name,.ls (q.lt.L.map aK),.ls (q.lt.K.map enc),wt q.rt.kind,wt q.rt.i,.str q.rt.name,.ls (q.rt.L.map aK),.ls (q.rt.K.map enc),.bool q.sub]):=by rw[hob2,Tr.cB]
  rw[<-hob2]at JJ;have g1':ob2.get h0.z=some (.box [.ls (s.ms.map cD),.ls (s.qs.map gC),.ls (s.bs.map cQ),wt s.n]):=JJ.g;obtain⟨b1,u1⟩:=hg.r18 s.ms q.ctx [q.lt,q.rt] fs.lm f1 f2 (by simp) (fun t ht=>by simp at ht;rcases ht with rfl|rfl;exact f3;exact f4);obtain⟨b2,u2⟩:=hg.r20 q.lt s.n f3;obtain⟨b3,u3⟩:=hg.r20 q.rt s.n f4;obtain⟨b4,u4⟩:=hg.r49 s.n q.ctx f1 f2;have e1:=fun h=>dQ (u1 [.ls (s.ms.map cD),.ls (q.ctx.map enc),.clip [(.agg [wt q.lt.kind,wt q.lt.i,.str q.lt.name,.ls (q.lt.L.map aK),.ls (q.lt.K.map enc)]),(.agg [wt q.rt.kind,wt q.rt.i,.str q.rt.name,.ls (q.rt.L.map aK),.ls (q.rt.K.map enc)])]] h (by rw[<-aA,<-aA];simp[AV.ip,AV.norm,mF,cu,bL])) (m0+1)
  have e2:=fun h=>dQ (u2 [(.agg [wt q.lt.kind,wt q.lt.i,.str q.lt.name,.ls (q.lt.L.map aK),.ls (q.lt.K.map enc)]),wt s.n] h (by rw[<-aA];simp[AV.ip,AV.norm,bL])) (m0+1)
  have e3:=fun h=>dQ (u3 [(.agg [wt q.rt.kind,wt q.rt.i,.str q.rt.name,.ls (q.rt.L.map aK),.ls (q.rt.K.map enc)]),wt s.n] h (by rw[<-aA];simp[AV.ip,AV.norm,bL])) (m0+1)
  have e4:=fun h=>dQ (u4 h) (m0+1)
  simp only[go_sem,simprocAttr,abi,t1,t4,g1,ia];rw[<-hob2];have bad:∀tm,nth tm 2=.bool false->HQ h0 r12 (Gx (isG s) h0) .ret ⟨tm,⟨[],.no,none,12⟩⟩ ⟨nx+1,gz nx lo,ob2⟩:=fun tm ht=>JJ.fin _ _ (Br s) (fun m H b=>eN m b _) ht
  cases b1 with
  |false=>
   simp only[go_sem,simprocAttr,Bc,t1,g1',g5,e1];exact bad _ (by simp only[go_sem,simprocAttr])
  |true=>
   cases b2 with
   |false=>
    simp only[go_sem,simprocAttr,Bc,t1,g1',g5,e1,e2];exact bad _ (by simp only[go_sem,simprocAttr])
   |true=>
    cases b3 with
    |false=>
     simp only[go_sem,simprocAttr,Bc,t1,g1',g5,e1,e2,e3];exact bad _ (by simp only[go_sem,simprocAttr])
    |true=>
     cases b4 with
     |false=>
      simp only[go_sem,simprocAttr,Bc,t1,g1',g5,e1,e2,e3,e4];exact bad _ (by simp only[go_sem,simprocAttr])
     |true=>
      simp only[go_sem,simprocAttr,Bc,t1,t4,g1',g5,e1,e2,e3,e4,hw2];exact⟨j-1,by omega,_,m+1,by omega,rfl,JJ,by and_intros<;>simp only[go_sem,simprocAttr,t1]⟩
 ·simp only[go_sem,simprocAttr];exact t12_9 hK hv m0 s n hsn h1 h2 h3 h4 h0 _ J _ (by simp only[go_sem,simprocAttr,t1])
def I12a (s:SV)(h0:AH)(j:Nat)(fr:AF)(h:AH):Prop:=∃tm m,m+j=s.ms.length/\fr=⟨tm,⟨[],.no,none,12⟩⟩/\J12 s h0 h/\nth tm 1=.ptr h0.z 0 0/\nth tm 3=wt (m:Int)
theorem acS {K:aG}(hK:jR K)(hv:KV K)(hg:KG K)(m0:Nat)(s:SV)(fs:Me s)(n:Nat)(hsn:s.n=(n:Int))(h1:n<=20)(h2:s.ms.length<=8)(h3:s.qs.length<=5)(h4:s.bs.length<=8)
  (h0 H:AH) (J:J12 s h0 H) (tm:Tm) (t1:nth tm 1=.ptr h0.z 0 0):R (cK K (m0+1)) 30000 [.code Gw] (HQ h0 r12 (Gx (isG s) h0)) .normal ⟨tm,⟨[],.no,none,12⟩⟩ H:=by
 have hlen:∀H,lenOf (.ls (s.ms.map cD)) H 1=some s.ms.length:=fun H=>by rw[dL,waa]
 simp only[go_sem,simprocAttr,Gw];refine bD (I12a s h0) s.ms.length (by omega) ⟨_,0,wac _,rfl,J,by and_intros<;>simp only[go_sem,simprocAttr,t1]⟩ ?_;clear J t1;rintro j fr H ⟨tm,m,hm,rfl,J,t1,t3⟩;obtain⟨nx,lo,ob⟩:=H;have g1:ob.get h0.z=some (.box [.ls (s.ms.map cD),.ls (s.qs.map gC),.ls (s.bs.map cQ),wt s.n]):=J.g;unfold ab9;simp only[go_sem,simprocAttr,t1,t3,g1,hlen];refine bj (fun hlt=>?_) (fun hge=>?_)
 ·have hlt:m<s.ms.length:=by omega
  obtain⟨x,hx⟩:∃x,s.ms[m]?=some x:=⟨_,wO hlt⟩
  obtain⟨f1,f2⟩:=fs.ms x (wS hx);have ia:=fun H=>aN ie hx .i64 H
  have hw2:=aM m (by omega);obtain⟨b1,u1⟩:=hg.r20 x.ty s.n f1;obtain⟨b2,u2⟩:=hg.r20 x.val s.n f2;have e1:=fun h=>dQ (u1 [enc x.ty,wt s.n] h (by simp[AV.ip,AV.norm,bL])) (m0+1)
  have e2:=fun h=>dQ (u2 [enc x.val,wt s.n] h (by simp[AV.ip,AV.norm,bL])) (m0+1)
  have bq:=bq_ms s.ms;have bq1:AV.beq (enc x.ty) (enc x.ty)=true:=fI (cH _);have bq2:AV.beq (enc x.val) (enc x.val)=true:=fI (cH _);cases b1 with
  |false=>
   simp only[go_sem,simprocAttr,Mq,t1,t3,g1,ia,re,e1];exact J.fin _ _ (Br s) (fun m H b=>eN m b _) (by simp only[go_sem,simprocAttr])
  |true=>
   cases b2 with
   |false=>
    simp only[go_sem,simprocAttr,Mq,t1,t3,g1,ia,re,vG,e1,e2];exact J.fin _ _ (Br s) (fun m H b=>eN m b _) (by simp only[go_sem,simprocAttr])
   |true=>
    simp only[go_sem,simprocAttr,Mq,t1,t3,g1,ia,re,vG,e1,e2,hw2];exact⟨j-1,by omega,_,m+1,by omega,rfl,J,by and_intros<;>simp only[go_sem,simprocAttr,t1]⟩
 ·simp only[go_sem,simprocAttr];exact acT hK hv hg m0 s fs n hsn h1 h2 h3 h4 h0 _ J _ (by simp only[go_sem,simprocAttr,t1])
theorem c12 {K:aG}(hK:jR K)(hv:KV K)(hg:KG K)(m0:Nat)(s:SV)(fs:Me s)(h:AH):
  ∃v nx,h.z<=nx/\cK K (m0+2) (.fn 12 [] []) [.agg [.ls (s.ms.map cD),.ls (s.qs.map gC),.ls (s.bs.map cQ),wt s.n]] .no h=some (.ret v,.no,⟨nx,h.low,h.objs⟩)/\isG s v:=by
 rw[eV hK _ 12];have key:∃v h',dZ EF (cK K (m0+1)) 30000 12 [.agg [.ls (s.ms.map cD),.ls (s.qs.map gC),.ls (s.bs.map cQ),wt s.n]] .no h=some (.ret v,.no,h')/\Gx (isG s) h v h':=by
  refine eU cf12 (fg _) ?_;unfold b12;have hl1:∀H,lenOf (.ls (s.qs.map gC)) H 1=some s.qs.length:=fun H=>by rw[dL,waa]
  have hl2:∀H,lenOf (.ls (s.bs.map cQ)) H 1=some s.bs.length:=fun H=>by rw[dL,waa]
  obtain⟨ob,hob⟩:∃ob,ob=h.objs.put h.z (.box [.ls (s.ms.map cD),.ls (s.qs.map gC),.ls (s.bs.map cQ),wt s.n]):=⟨_,rfl⟩
  have g1:ob.get h.z=some (.box [.ls (s.ms.map cD),.ls (s.qs.map gC),.ls (s.bs.map cQ),wt s.n]):=by rw[hob,Tr.cB]
  have J:J12 s h ⟨h.z+1,h.z,ob⟩:=⟨g1,by show h.z<h.z+1;omega,Fv _⟩;have bad:∀tm,nth tm 2=.bool false->HQ h r12 (Gx (isG s) h) .ret ⟨tm,⟨[],.no,none,12⟩⟩ ⟨h.z+1,h.z,ob⟩:=fun tm ht=>J.fin _ _ (Br s) (fun m H b=>eN m b _) ht
  obtain⟨b1,hb1,u1⟩:=hg.r48 s.ms fs.lm fs.ms;have e1:=fun h=>dQ (u1 h) (m0+1)
  simp only[go_sem,simprocAttr];rw[<-hob];cases b1 with
  |false=>
   simp only[go_sem,simprocAttr,oV,g1,e1];exact bad _ (by simp only[go_sem,simprocAttr])
  |true=>
   by_cases l1:(5:Int)<(s.qs.length:Int)
   ·have d1:=HE l1;simp only[go_sem,simprocAttr,oV,g1,e1,hl1,d1];exact bad _ (by simp only[go_sem,simprocAttr])
   have d1:=HD l1;by_cases l2:(8:Int)<(s.bs.length:Int)
   ·have d2:=HE l2;simp only[go_sem,simprocAttr,oV,g1,e1,hl1,hl2,d1,d2];exact bad _ (by simp only[go_sem,simprocAttr])
   have d2:=HD l2;by_cases l3:s.n<0
   ·have d3:=HE l3;simp only[go_sem,simprocAttr,oV,g1,e1,hl1,hl2,d1,d2,d3];exact bad _ (by simp only[go_sem,simprocAttr])
   have d3:=HD l3;by_cases l4:20<s.n
   ·have d4:=HE l4;simp only[go_sem,simprocAttr,oV,g1,e1,hl1,hl2,d1,d2,d3,d4];exact bad _ (by simp only[go_sem,simprocAttr])
   have d4:=HD l4;simp only[go_sem,simprocAttr,oV,g1,e1,hl1,hl2,d1,d2,d3,d4];exact acS hK hv hg m0 s fs s.n.toNat (by omega) (by omega) (hb1 rfl) (by omega) (by omega) h _ J _ (by simp only[go_sem,simprocAttr])
 obtain⟨v,h',e,g⟩:=key;obtain⟨nx,h1,rfl⟩:=iH g;exact⟨v,nx,h1,e,g.1⟩
attribute [local go_sem] dB bJ bk bS bR ca cM
theorem Px (x:Int):Fx .neg (wt x)=some (wt (IntKind.wrap .i64 (0-x))):=by
 show some (nB .i64 (0-x))=_;rw[gG]
attribute [local go_sem] Px
def I20c (B:List AV)(n:Int)(ks:List T)(j:Nat)(fr:AF)(h:AH):Prop:=∃tm m,m+j=ks.length/\fr=⟨tm,⟨[],.no,none,20⟩⟩/\h.get 0=some (.box B)/\nth tm 1=wt n/\nth tm 2=.ptr 0 0 0/\nth tm 7=wt (m:Int)
def I20a (B:List AV)(n:Int)(ls:List LL)(j:Nat)(fr:AF)(h:AH):Prop:=∃tm m,m+j=ls.length/\fr=⟨tm,⟨[],.no,none,20⟩⟩/\h.get 0=some (.box B)/\nth tm 1=wt n/\nth tm 2=.ptr 0 0 0/\nth tm 5=wt (m:Int)
def I20b (B:List AV)(n:Int)(q:Nat)(vs:List LV)(j:Nat)(fr:AF)(h:AH):Prop:=∃tm m,m+j=vs.length/\fr=⟨tm,⟨[],.no,none,20⟩⟩/\h.get 0=some (.box B)/\nth tm 1=wt n/\nth tm 2=.ptr 0 0 0/\nth tm 5=wt (q:Int)/\nth tm 6=wt (m:Int)
theorem run20 (call:aG)(N:Nat)(k i:Int)(nm:ByteArray)(ls:List LL)(ks:List T)(n:Int)(h1:ls.length<N)(h2:∀l∈ls,l.v.length<N)(h3:ks.length<N)(hN:N<9223372036854775807)
  (hc:∀t∈ks,∃b:Bool,∀h,call (.fn 20 [] []) [enc t,wt n] .no h=some (.ret (.bool b),.no,h)) :
  R call N [.code b20] (FX r20 isB) .normal ⟨bn [enc (.mk k i nm ls ks),wt n],⟨[],.no,none,20⟩⟩ bg:=by
 rw[ei];unfold b20 bg;simp only[go_sem,simprocAttr,aa6];refine bD (I20a [wt k,wt i,.str nm,.ls (ls.map aK),.ls (ks.map enc)] n ls) ls.length h1 ⟨_,0,wac _,rfl,by and_intros<;>simp only[go_sem,simprocAttr]⟩ ?_;rintro j fr h ⟨tm,m,hm,rfl,g0,t1,t2,t5⟩;unfold ab4;simp only[go_sem,simprocAttr,t2,t5,g0];refine bj (fun hlt=>?_) (fun hge=>?_)
 ·have hlt:m<ls.length:=by omega
  obtain⟨l,hl⟩:∃l,ls[m]?=some l:=⟨_,wO hlt⟩
  have ia:=fun h=>aN dj hl .i64 h
  have ell:aK l=.agg [wt l.c,.ls (l.v.map encV)]:=rfl;rw[ell]at ia;have hw2:=aM m (by omega);have hvl:=h2 l (wS hl);simp only[go_sem,simprocAttr,aa9];refine bD (I20b [wt k,wt i,.str nm,.ls (ls.map aK),.ls (ks.map enc)] n m l.v) l.v.length hvl ⟨_,0,wac _,rfl,g0,by and_intros<;>simp only[go_sem,simprocAttr,t1,t2,t5]⟩ ?_;clear t1 t2 t5 g0;rintro jj fr h ⟨tm,q,hq,rfl,g0,t1,t2,t5,t6⟩;unfold ab5;simp only[go_sem,simprocAttr,t2,t5,t6,g0,ia];refine bj (fun hlt=>?_) (fun hge=>?_)
  ·have hlt:q<l.v.length:=by omega
   obtain⟨x,hx⟩:∃x,l.v[q]?=some x:=⟨_,wO hlt⟩
   have ib:=fun h=>aN ct hx .i64 h
   have exx:encV x=.agg [wt x.i,wt x.p]:=rfl;rw[exx]at ib;have hw3:=aM q (by omega);simp only[go_sem,simprocAttr,aba,t1,t2,t5,t6,g0,ia,ib];refine bj (fun hb=>?_) (fun hb=>?_)
   ·simp only[go_sem,simprocAttr,bA,r20,jv]
   ·simp only[go_sem,simprocAttr,t6,hw3];exact⟨jj-1,by omega,_,q+1,by omega,rfl,g0,by and_intros<;>simp only[go_sem,simprocAttr,t1,t2,t5]⟩
  ·simp only[go_sem,simprocAttr,t5,hw2];exact⟨j-1,by omega,_,m+1,by omega,rfl,g0,by and_intros<;>simp only[go_sem,simprocAttr,t1,t2]⟩
 ·simp only[go_sem,simprocAttr,aa7];refine bD (I20c [wt k,wt i,.str nm,.ls (ls.map aK),.ls (ks.map enc)] n ks) ks.length h3 ⟨_,0,wac _,rfl,g0,by and_intros<;>simp only[go_sem,simprocAttr,t1,t2]⟩ ?_;clear t1 t2 t5 g0;rintro jj fr h ⟨tm,q,hq,rfl,g0,t1,t2,t7⟩;unfold ab3;simp only[go_sem,simprocAttr,t2,t7,g0];refine bj (fun hlt=>?_) (fun hge=>?_)
  ·have hlt:q<ks.length:=by omega
   obtain⟨t,ht⟩:∃t,ks[q]?=some t:=⟨_,wO hlt⟩
   have ia:=fun h=>aN aZ ht .i64 h
   obtain⟨b,e1⟩:=hc t (wS ht);have hw3:=aM q (by omega);cases b with
   |true=>
    simp only[go_sem,simprocAttr,Vv,t1,t2,t7,g0,ia,e1,hw3];exact⟨jj-1,by omega,_,q+1,by omega,rfl,g0,by and_intros<;>simp only[go_sem,simprocAttr,t1,t2]⟩
   |false=>simp only[go_sem,simprocAttr,Vv,t1,t2,t7,g0,ia,e1,bA,r20,jv]
  ·simp only[go_sem,simprocAttr,aa8,bA,r20,jv]
def I49 (n:Int)(l:List T)(j:Nat)(fr:AF)(_h:AH):Prop:=∃tm m,m+j=l.length/\fr=⟨tm,⟨[],.no,none,49⟩⟩/\nth tm 0=wt n/\nth tm 1=.ls (l.map enc)/\nth tm 5=wt (m:Int)
theorem run49 (call:aG)(N:Nat)(n:Int)(l:List T)(hl:l.length<N)(hN:N<9223372036854775807)
  (hc:∀t∈l,∃b:Bool,∀h,call (.fn 20 [] []) [enc t,wt n] .no h=some (.ret (.bool b),.no,h)) :
  R call N [.code b49] (FX r49 isB) .normal ⟨bn [wt n,.ls (l.map enc)],⟨[],.no,none,49⟩⟩ bg:=by
 unfold b49 bg;simp only[go_sem,simprocAttr,aaH];refine bD (I49 n l) l.length hl ⟨_,0,wac _,rfl,by and_intros<;>simp only[go_sem,simprocAttr]⟩ ?_;rintro j fr h ⟨tm,m,hm,rfl,t0,t1,t5⟩;unfold abX;simp only[go_sem,simprocAttr,t1,t5];refine bj (fun hlt=>?_) (fun hge=>?_)
 ·have hlt:m<l.length:=by omega
  obtain⟨t,ht⟩:∃t,l[m]?=some t:=⟨_,wO hlt⟩
  have ia:=fun h=>aN aZ ht .i64 h
  obtain⟨b,e1⟩:=hc t (wS ht);have hw2:=aM m (by omega);cases b with
  |true=>
   simp only[go_sem,simprocAttr,Ve,t0,t1,t5,ia,e1,hw2];exact⟨j-1,by omega,_,m+1,by omega,rfl,by and_intros<;>simp only[go_sem,simprocAttr,t0,t1]⟩
  |false=>simp only[go_sem,simprocAttr,Ve,t0,t1,t5,ia,e1,bA,r49,jv]
 ·simp only[go_sem,simprocAttr,aaI,bA,r49,jv]
def I59 (l:List T)(a p q r:Int)(j:Nat)(fr:AF)(_h:AH):Prop:=∃tm m,m+j=l.length/\fr=⟨tm,⟨[],.no,none,59⟩⟩/\nth tm 0=.ls (l.map enc)/\nth tm 1=wt a/\nth tm 2=wt p/\nth tm 3=wt q/\nth tm 4=wt r/\nth tm 11=wt (m:Int)
theorem run59 (call:aG)(N:Nat)(l:List T)(a p q r:Int)(hl:l.length<N)(hN:N<9223372036854775807)
  (hc:∀t∈l,∀v:Int,∃e:Int,∀h,call (.fn 7 [] []) [enc t,wt v,wt p,wt q,wt r] .no h=some (.ret (wt e),.no,h)) :
  R call N [.code b59] (FX r59 isI) .normal ⟨bn [.ls (l.map enc),wt a,wt p,wt q,wt r],⟨[],.no,none,59⟩⟩ bg:=by
 unfold b59 bg;simp only[go_sem,simprocAttr,aaw];refine bD (I59 l a p q r) l.length hl ⟨_,0,wac _,rfl,by and_intros<;>simp only[go_sem,simprocAttr]⟩ ?_;rintro j fr h ⟨tm,m,hm,rfl,t0,t1,t2,t3,t4,t11⟩;unfold abT;simp only[go_sem,simprocAttr,t0,t11];refine bj (fun hlt=>?_) (fun hge=>?_)
 ·have hlt:m<l.length:=by omega
  obtain⟨t,ht⟩:∃t,l[m]?=some t:=⟨_,wO hlt⟩
  have ia:=fun h=>aN aZ ht .i64 h
  obtain⟨e,e1⟩:=hc t (wS ht) (IntKind.wrap .i64 (a+(m:Int)));have hw2:=aM m (by omega);by_cases he:e=0
  ·have d:decide (e=0)=true:=HE he;simp only[go_sem,simprocAttr,UZ,Vc,t0,t1,t2,t3,t4,t11,ia,e1,d,hw2];exact⟨j-1,by omega,_,m+1,by omega,rfl,by and_intros<;>simp only[go_sem,simprocAttr,t0,t1,t2,t3,t4]⟩
  ·have d:decide (e=0)=false:=HD he;simp only[go_sem,simprocAttr,UZ,Vc,t0,t1,t2,t3,t4,t11,ia,e1,d,bA,r59,vV]
 ·simp only[go_sem,simprocAttr,aax,bA,r59,vV]
def I47z (ls:List LL)(fr:AF)(_h:AH):Prop:=∃tm,fr=⟨tm,⟨[],.no,none,47⟩⟩/\nth tm 0=.ls (ls.map aK)/\nth tm 5=wt 0
theorem ac9 (call:aG)(N:Nat)(ls:List LL)(hN:0<N):
  R call N [.code b47] (FX r47 isB) .normal ⟨bn [.ls (ls.map aK),.ls []],⟨[],.no,none,47⟩⟩ bg:=by
 unfold b47 bg;have z:∀h,lenOf (.ls []) h 1=some 0:=fun h=>rfl
 cases ls with
 |nil=>
  have d:decide (((0:Nat):Int)=((0:Nat):Int))=true:=by decide
  have d2:decide ((0:Int)<((0:Nat):Int))=false:=by decide
  simp only[go_sem,Nat.reduceEqDiff,reduceCtorEq,Ml,z,Vf];refine bD (fun j fr h=>j=0/\I47z [] fr h) 0 hN ⟨rfl,_,rfl,by simp only[go_sem,reduceCtorEq],by simp only[go_sem]⟩ ?_;rintro j fr h ⟨rfl,tm,rfl,t0,t5⟩;unfold VU;simp only[go_sem,Nat.reduceEqDiff,reduceCtorEq,t0,t5,z,d2,Vg,bA,r47,jv]
 |cons x ls=>
  have d:decide (((ls.length+1:Nat):Int)=((0:Nat):Int))=false:=HD (by omega);simp only[go_sem,Nat.reduceEqDiff,reduceCtorEq,Ml,z,d,bA,r47,jv]
theorem adi (call:aG)(N:Nat)(k i:Int)(nm:ByteArray)(ls:List LL)(ks:List T)(hN:0<N)(h47:∃b:Bool,∀h,call (.fn 47 [] []) [.ls (ls.map aK),.ls []] .no h=some (.ret (.bool b),.no,h)):
  R call N [.code b11] (FX r11 isB) .normal ⟨bn [enc (.mk k i nm ls ks),enc (.mk 0 0 (bs []) [] [])],⟨[],.no,none,11⟩⟩ bg:=by
 rw[ei,ei];obtain⟨b,e47⟩:=h47;unfold b11 bg;have z:∀h,lenOf (.ls []) h 1=some 0:=fun h=>rfl
 have fin:∀(tm:Tm) (h:AH),ks=[]->h.get 0=some (.box [wt k,wt i,.str nm,.ls (ls.map aK),.ls (ks.map enc)])->nth tm 2=.ptr 0 0 0->R call N [.code Mr] (FX r11 isB) .normal ⟨tm,⟨[],.no,none,11⟩⟩ h:=by
  intro tm h hk g0 t2;subst hk;have d2:decide ((0:Int)<((0:Nat):Int))=false:=by decide
  simp only[go_sem,Mr];refine bD (fun j fr h=>j=0/\∃tm,fr=⟨tm,⟨[],.no,none,11⟩⟩/\h.get 0=some (.box [wt k,wt i,.str nm,.ls (ls.map aK),.ls ([].map enc)])/\nth tm 2=.ptr 0 0 0/\nth tm 5=wt 0) 0 hN ⟨rfl,_,rfl,g0,by simp only[go_sem,Nat.reduceEqDiff,t2],by simp only[go_sem]⟩ ?_;rintro j fr h ⟨rfl,tm,rfl,g0,t2,t5⟩;have z2:∀h,lenOf (.ls ([].map enc)) h 1=some 0:=fun h=>rfl
  unfold VX;simp only[go_sem,Nat.reduceEqDiff,g0,t2,t5,d2,VA,bA,r11,jv]
 simp only[go_sem,Nat.reduceEqDiff,Nat.reduceAdd,reduceCtorEq];by_cases c1:k=0
 ·have d1:decide (k=0)=true:=HE c1;by_cases c2:i=0
  ·have d2:decide (i=0)=true:=HE c2;cases c3:(nm==bs []) with
   |false=>simp only[go_sem,Nat.reduceEqDiff,reduceCtorEq,vT,d1,d2,c3,bA,r11,jv]
   |true=>
    cases b with
    |false=>simp only[go_sem,Nat.reduceEqDiff,reduceCtorEq,vT,d1,d2,c3,e47,bA,r11,jv]
    |true=>
     cases ks with
     |nil=>
      have d4:decide (((0:Nat):Int)=((0:Nat):Int))=true:=by decide
      simp only[go_sem,Nat.reduceEqDiff,reduceCtorEq,vT,d1,d2,c3,e47];exact fin _ _ rfl (by simp only[go_sem,reduceCtorEq]) (by simp only[go_sem,Nat.reduceEqDiff])
     |cons t ks=>
      have d4:decide (((ks.length+1:Nat):Int)=((0:Nat):Int))=false:=HD (by omega);simp only[go_sem,Nat.reduceEqDiff,reduceCtorEq,vT,d1,d2,c3,e47,z,d4,bA,r11,jv]
  ·have d2:decide (i=0)=false:=HD c2;simp only[go_sem,Nat.reduceEqDiff,reduceCtorEq,vT,d1,d2,bA,r11,jv]
 ·have d1:decide (k=0)=false:=HD c1;simp only[go_sem,Nat.reduceEqDiff,reduceCtorEq,vT,d1,bA,r11,jv]
attribute [local go_sem] dB bJ bk bS bR ca cM
theorem ux (h:AH)(a b c d e a' b' c' d' e' z1 z2 z3 z4 z5:AV):iS true true 5 [z1,z2,z3,z4,z5] 2 [(0,5,.agg [a,b,c,d,e]),(5,5,.agg [a',b',c',d',e'])] h=.val (.clip [.agg [a,b,c,d,e],.agg [a',b',c',d',e']]) h:=(rfl)
attribute [local go_sem] ux iW
def isB8 (ms:List MV)(o:bI):Prop:=∃b:Bool,o=.ret (.bool b)/\(b=true->ms.length<=8)
theorem vK (x y:MV)(h:cD x=cD y):x=y:=by
 have h1:enc x.ty=enc y.ty:=by
  have:=congrArg (fun a=>eM (.vptr a) bg 0 5 true) h;simp only[re]at this;injection this with e;injection e
 have h2:enc x.val=enc y.val:=by
  have:=congrArg (fun a=>eM (.vptr a) bg 6 5 true) h;simp only[vG]at this;injection this with e;injection e
 obtain⟨a,b,c,d⟩:=x;obtain⟨a',b',c',d'⟩:=y;have h3:b=b':=by simp[cD]at h;exact h.2.2.2.2.2.1
 have h4:d=d':=by simp[cD]at h;exact h.2.2.2.2.2.2.2.2.2.2.2
 rw[show a=a' from fp h1,show c=c' from fp h2,h3,h4]
def aTI (x:T×Int):List AV:=[enc x.1,wt x.2]
theorem YH (x y:T×Int)(h:aTI x=aTI y):x=y:=by
 obtain⟨a,b⟩:=x;obtain⟨c,d⟩:=y;simp[aTI]at h;rw[fp h.1,h.2]
def a59 (x:List T×Int×Int×Int×Int):List AV:=[.ls (x.1.map enc),wt x.2.1,wt x.2.2.1,wt x.2.2.2.1,wt x.2.2.2.2]
theorem Js (x y:List T×Int×Int×Int×Int)(h:a59 x=a59 y):x=y:=by
 obtain⟨a,b,c,d,e⟩:=x;obtain⟨a',b',c',d',e'⟩:=y;simp only[a59,List.cons.injEq,AV.int.injEq,AV.ls.injEq,true_and,and_true]at h;obtain⟨h1,h2,h3,h4,h5⟩:=h;rw[eB (fun _ _=>fp) h1,h2,h3,h4,h5]
def a18 (x:List MV×List T×List T):List AV:=[.ls (x.1.map cD),.ls (x.2.1.map enc),.ls (x.2.2.map enc)]
theorem Jt (x y:List MV×List T×List T)(h:a18 x=a18 y):x=y:=by
 obtain⟨a,b,c⟩:=x;obtain⟨a',b',c'⟩:=y;simp only[a18,List.cons.injEq,AV.ls.injEq,and_true]at h;rw[eB vK h.1,eB (fun _ _=>fp) h.2.1,eB (fun _ _=>fp) h.2.2]
def aMs (x:List MV):List AV:=[.ls (x.map cD)]
theorem Jm (x y:List MV)(h:aMs x=aMs y):x=y:=by
 simp only[aMs,List.cons.injEq,AV.ls.injEq,and_true]at h;exact eB vK h
def MM (x:List LL):List AV:=[.ls (x.map aK),.ls []]
theorem Pg (x y:List LL)(h:MM x=MM y):x=y:=by
 simp only[MM,List.cons.injEq,AV.ls.injEq,and_true]at h;exact eB (fun _ _=>hO) h
def aT0 (x:T):List AV:=[enc x,enc (.mk 0 0 (bs []) [] [])]
theorem YI (x y:T)(h:aT0 x=aT0 y):x=y:=by simp[aT0]at h;exact fp h
def Z135:AG.cF:=mkS 135 aL wU vB
def Z21:AG.cF:=mkS 21 aL wU vB
def Z20:AG.cF:=mkS 20 aTI YH fun _ o=>isB o
def Z49:AG.cF:=mkS 49 aIT Jq fun _ o=>isB o
def Z59:AG.cF:=mkS 59 a59 Js fun _ o=>isI o
def Z47:AG.cF:=mkS 47 MM Pg fun _ o=>isB o
def Z11:AG.cF:=mkS 11 aT0 YI fun _ o=>isB o
def Z18:AG.cF:=mkS 18 a18 Jt fun _ o=>isB o
def Z48:AG.cF:=mkS 48 aMs Jm isB8
def Z58:AG.cF:=mkS 58 aLL Jp fun _ o=>o=.ret (.bool true)
def Z13:AG.cF:=mkS 13 a0 Um fun _ o=>o=.ret (.bool true)
def oT:List AG.cF:=[S24,S6,S7,Z135,Z21,Z20,Z49,Z59,Z47,Z11,Z18,Z48,Z58,Z13]
theorem gf:oT.map AG.cF.fid=[24,6,7,135,21,20,49,59,47,11,18,48,58,13]:=rfl
def GZ:aG:=dI (fx oT)
theorem EA:∀s∈oT,s.Meets CI:=by
 intro s hs;simp only[oT,List.mem_cons,List.mem_nil_iff,or_false]at hs;rcases hs with h|h|h|h|h|h|h|h|h|h|h|h|h|h<;>(subst h;exact lN)
theorem fL:bM CI GZ/\∀s∈oT,s.Used GZ:=ky oT EA (by rw[gf];decide)
theorem Ab {f:FuncId}{c a:List AV}{rc:RC}{h:AH}(hf:f ∉ oT.map AG.cF.fid):GZ (.fn f [] c) a rc h=none:=by
 have hn:∀s∈oT,f≠s.fid:=fun s hs e=>hf (e▸List.mem_map_of_mem hs)
 unfold GZ dI;cases rc<;>try rfl
 simp only[AV.norm,AV.ip,sU hn]
theorem aeo {k:Nat}{a:List AV}{rc:RC}{h:AH}: GZ (.yld k) a rc h=none:=by
 unfold GZ dI;cases rc<;>try rfl
 simp only[AV.norm,uc]
theorem A20:∀(m:Nat) (t:T) (n:Int),size t<=m->Fit t->∃o,isB o/\Ans CI (.fn 20 [] []) (aTI (t,n)) o:=by
 intro m;induction m with
 |zero=>intro t n h;have:=cG t;omega
 |succ m ih=>
  rintro⟨k,i,nm,ls,ks⟩ n h hf;obtain⟨f1,f2,f3,f4,f5,f6,f7⟩:=hf;simp only[size]at h;refine jG (n:=1125899906842625) fL.1 cf20 (fg 20) (by simp[aTI,AV.jp,AV.free,cH]) (fun _=>Bs) (run20 GZ _ k i nm ls ks n (by omega) (fun l hl=>by have:=f5 l hl;omega) (by omega) (by omega) (fun t ht=>?_));obtain⟨a,ha,rfl⟩:=wag.1 ht;have hs:=ck (wO ha);obtain⟨o,⟨b,rfl⟩,hu⟩:=bB (fL.2 Z20 (by simp[oT])) (ks[a],n) (ih ks[a] n (by omega) (f7 _ ht));exact⟨b,fun h'=>hu _ h' (by simp[aTI,AV.ip,AV.norm,bL])⟩
theorem us20 (t:T)(n:Int)(hf:Fit t):∃b:Bool,∀a h,AV.ip a=[enc t,wt n]->GZ (.fn 20 [] []) a .no h=some (.ret (.bool b),.no,h):=by
 obtain⟨o,⟨b,rfl⟩,hu⟩:=bB (fL.2 Z20 (by simp[oT])) (t,n) (A20 _ t n (Fv _) hf);exact⟨b,fun a h ha=>hu a h ha⟩
theorem A49 (l:List T)(n:Int)(hl:l.length<1125899906842624)(hf:∀t∈l,Fit t):∃o,isB o/\Ans CI (.fn 49 [] []) (aIT (n,l)) o:=
 jG (n:=1125899906842625) fL.1 cf49 (fg 49) (by simp[aIT,AV.jp,AV.free,eE]) (fun _=>Bs) (run49 GZ _ n l (by omega) (by omega) (fun t ht=>by
  obtain⟨b,hb⟩:=us20 t n (hf t ht);exact⟨b,fun h=>hb _ h (by simp[AV.ip,AV.norm,bL])⟩))
theorem us24 (l:List T)(m:Int)(hm:m<9223372036854775808)(hl:l.length<1125899906842624)(hf:∀t∈l,Fit t):∃e:Int,(∀a h,AV.ip a=aIT (m,l)->GZ (.fn 24 [] []) a .no h=some (.ret (wt e),.no,h))/\(aW l<2305843009213693952->0<=e/\e<=aW l/\(e<=m->e=aW l)):=by
 obtain⟨o,⟨e,rfl,he⟩,hu⟩:=bB (fL.2 S24 (by simp[oT])) (m,l) (A24 _ l m (Fv _) hm hl hf);exact⟨e,fun a h ha=>hu a h ha,he⟩
theorem us6 (l:List T)(hl:l.length<1125899906842624)(hf:∀t∈l,Fit t):∃b:Bool,(∀a h,AV.ip a=aTs l->GZ (.fn 6 [] []) a .no h=some (.ret (.bool b),.no,h))/\(b=true->aW l<=200/\∀t∈l,lE t):=by
 obtain⟨o,⟨b,rfl,hb⟩,hu⟩:=bB (fL.2 S6 (by simp[oT])) l (A6 _ l (Fv _) hl hf);exact⟨b,fun a h ha=>hu a h ha,hb⟩
theorem A47z (l:List LL):∃o,isB o/\Ans CI (.fn 47 [] []) (MM l) o:=
 jG (n:=1) fL.1 ((cfE 47).trans cf47) (fg 47) (by simp[MM,AV.jp,AV.free,ig]) (fun _=>Bs) (ac9 GZ 1 l (by omega))
theorem A11z (t:T):∃o,isB o/\Ans CI (.fn 11 [] []) (aT0 t) o:=by
 obtain⟨k,i,nm,ls,ks⟩:=t;refine jG (n:=1) fL.1 ((cfE 11).trans cf11) (fg 11) (by simp[aT0,AV.jp,cH]) (fun _=>Bs) (adi GZ 1 k i nm ls ks (by omega) ?_);obtain⟨o,⟨b,rfl⟩,hu⟩:=bB (fL.2 Z47 (by simp[oT])) ls (A47z ls);exact⟨b,fun h=>hu _ h (by simp[MM,AV.ip,AV.norm,fB])⟩
theorem aci:KV GZ:=⟨fun a x h ha hl=>by
  obtain⟨o,rfl,hu⟩:=bB (fL.2 Z135 (by simp[oT])) x (A135 x hl);exact hu _ h (by simp[aL,AV.ip,ha.norm]),fun a x h ha hl=>by
  obtain⟨o,rfl,hu⟩:=bB (fL.2 Z21 (by simp[oT])) x (afc x hl);exact hu _ h (by simp[aL,AV.ip,ha.norm])⟩
