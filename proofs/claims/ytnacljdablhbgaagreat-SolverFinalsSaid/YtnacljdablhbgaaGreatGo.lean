/- SolverFinals: the scope of levels, by the program (no condition). -/
import Derived.Test.YtnacljdablhbgaaGreatGn
namespace Go.Proofs.YtnacljdablhbgaaGreat
open Go.AG
section
variable {K:aG}
def IX68 (l:List LL)(b:LL->Bool)(fv:AV)(h0:AH)(j:Nat)(fr:AF)(h:AH):Prop:=∃tm p,p+j=l.length/\fr=⟨tm,⟨[],.no,none,68⟩⟩/\HK h0 h/\nth tm 0=.ls (l.map aK)/\nth tm 1=fv/\nth tm 7=wt (l.length:Int)/\nth tm 8=wt (p:Int)/\(l.take p).any b=false
theorem cx68 (hK:bW K)(m:Nat)(l:List LL)(hl:l.length<=50000)(b:LL->Bool)(F:Nat)(cap:List AV)(hcap:AV.ip cap=cap)(h:AH)
  (hf:∀x∈l,∀H,HK h H->∃H',cS K m (.fn F [] cap) [aK x] .no H=some (.ret (.bool (b x)),.no,H')/\HK H H') :
  ∃v h',cS K (m+1) (.fn 68 [] []) [.ls (l.map aK),.fn F [] cap] .no h=some (.ret v,.no,h')/\(∃e:Int,v=wt e/\decide (0<=e)=l.any b)/\HK h h':=by
 have can:∀h,eT (.fn F [] cap) h=(.fn F [] cap,h):=fun h=>by rw[jD,hcap];simp[AV.ip]
 refine cm (c:=[]) hK aeR (ae (kG _ _) (ae (can _) (aB _))) ?_
 try simp only[wab]
 have hlen:∀H,lenOf (.ls (l.map aK)) H 1=some l.length:=fun H=>by rw[dL,waa]
 have fin:∀(tm:Tm) (H:AH) (e:Int),nth tm 4=wt e->decide (0<=e)=l.any b->HK h H->IQ r68 (fun v h2=>∃v' h3,gT v h2=(v',h3)/\(∃e:Int,v'=wt e/\decide (0<=e)=l.any b)/\HK h h3) .ret ⟨tm,⟨[],.no,none,68⟩⟩ H:=by
  intro tm H e t4 he k;exact⟨rfl,rfl,.inr rfl,[wt e],by simp only[go_sem,simprocAttr,r68,t4],wt e,H,rfl,⟨e,rfl,he⟩,k⟩
 unfold b68;simp only[go_sem,simprocAttr,Mg,hlen];refine bD (IX68 l b (.fn F [] cap) h) l.length (by omega) ⟨_,0,wac _,rfl,HK.refl _,by simp only[go_sem,simprocAttr],by simp only[go_sem,simprocAttr],by simp only[go_sem,simprocAttr],by simp only[go_sem,simprocAttr],rfl⟩ ?_;rintro j fr H ⟨tm,p,hp,rfl,k,t0,t1,t7,t8,hA⟩;unfold Mz;simp only[go_sem,simprocAttr,Mi,t7,t8];refine bj (fun hlt=>?_) (fun hge=>?_)
 ·have hlt:p<l.length:=by omega
  obtain⟨x,hx⟩:∃x,l[p]?=some x:=⟨_,wO hlt⟩
  have ia:=fun H=>aN dj hx .i64 H
  have hw2:=aM p (by omega);obtain⟨H',e1,k1⟩:=hf x (wS hx) H k;cases hb:b x with
  |true=>
   rw[hb]at e1;simp only[go_sem,simprocAttr,EP,ER,t0,t1,t8,ia,e1];refine fin _ H' p (by simp only[go_sem,simprocAttr]) ?_ (k.trans k1);rw[show l.any b=true from List.any_eq_true.2 ⟨x,wS hx,hb⟩];exact HE (by omega)
  |false=>
   rw[hb]at e1;simp only[go_sem,simprocAttr,EP,ER,t0,t1,t8,ia,e1,hw2];refine⟨j-1,by omega,_,p+1,by omega,rfl,k.trans k1,by simp only[go_sem,simprocAttr,t0],by simp only[go_sem,simprocAttr,t1],by simp only[go_sem,simprocAttr,t7],by simp only[go_sem,simprocAttr],?_⟩;rw[iY hx,hA,hb];rfl
 ·have:p=l.length:=by omega
  subst this;rw[List.take_length]at hA;simp only[go_sem,simprocAttr,Mh];exact fin _ H (-1) (by simp only[go_sem,simprocAttr]) (by rw[hA];rfl) k
theorem cx25 (hK:bW K)(m:Nat)(l:List LL)(hl:l.length<=50000)(b:LL->Bool)(F:Nat)(cap:List AV)(hcap:AV.ip cap=cap)(h:AH)
  (hf:∀x∈l,∀H,HK h H->∃H',cS K m (.fn F [] cap) [aK x] .no H=some (.ret (.bool (b x)),.no,H')/\HK H H') :
  ∃v h',cS K (m+2) (.fn 25 [] []) [.ls (l.map aK),.fn F [] cap] .no h=some (.ret v,.no,h')/\v=.bool (l.any b)/\HK h h':=by
 have can:∀h,eT (.fn F [] cap) h=(.fn F [] cap,h):=fun h=>by rw[jD,hcap];simp[AV.ip]
 refine cm (c:=[]) hK aeS (ae (kG _ _) (ae (can _) (aB _))) ?_
 try simp only[wab]
 obtain⟨_,H',e1,⟨e,rfl,he⟩,k1⟩:=cx68 hK m l hl b F cap hcap h hf;unfold b25;simp only[go_sem,simprocAttr,Mm,e1,he];exact⟨rfl,rfl,.inr rfl,[.bool (l.any b)],by simp only[go_sem,simprocAttr,r25],.bool (l.any b),H',rfl,rfl,k1⟩
theorem TM (l:List LV)(h:AH):eT (.ls (l.map encV)) h=(.ls (l.map encV),h):=by
 rw[dG (show(AV.ls (l.map encV)).free=true by simp only[AV.free];exact cL lT l)];simp only[AV.norm,dN oB l]
def IX159 (l:List LV)(b:LV->Bool)(fv:AV)(h0:AH)(j:Nat)(fr:AF)(h:AH):Prop:=∃tm p,p+j=l.length/\fr=⟨tm,⟨[],.no,none,159⟩⟩/\HK h0 h/\nth tm 0=.ls (l.map encV)/\nth tm 1=fv/\nth tm 7=wt (l.length:Int)/\nth tm 8=wt (p:Int)/\(l.take p).any b=false
theorem cx159 (hK:bW K)(m:Nat)(l:List LV)(hl:l.length<=50000)(b:LV->Bool)(F:Nat)(cap:List AV)(hcap:AV.ip cap=cap)(h:AH)
  (hf:∀x∈l,∀H,HK h H->∃H',cS K m (.fn F [] cap) [encV x] .no H=some (.ret (.bool (b x)),.no,H')/\HK H H') :
  ∃v h',cS K (m+1) (.fn 159 [] []) [.ls (l.map encV),.fn F [] cap] .no h=some (.ret v,.no,h')/\(∃e:Int,v=wt e/\decide (0<=e)=l.any b)/\HK h h':=by
 have can:∀h,eT (.fn F [] cap) h=(.fn F [] cap,h):=fun h=>by rw[jD,hcap];simp[AV.ip]
 refine cm (c:=[]) hK abF (ae (TM _ _) (ae (can _) (aB _))) ?_
 try simp only[wab]
 have hlen:∀H,lenOf (.ls (l.map encV)) H 1=some l.length:=fun H=>by rw[dL,waa]
 have fin:∀(tm:Tm) (H:AH) (e:Int),nth tm 4=wt e->decide (0<=e)=l.any b->HK h H->IQ Zl (fun v h2=>∃v' h3,gT v h2=(v',h3)/\(∃e:Int,v'=wt e/\decide (0<=e)=l.any b)/\HK h h3) .ret ⟨tm,⟨[],.no,none,159⟩⟩ H:=by
  intro tm H e t4 he k;exact⟨rfl,rfl,.inr rfl,[wt e],by simp only[go_sem,simprocAttr,Zl,t4],wt e,H,rfl,⟨e,rfl,he⟩,k⟩
 unfold ae0;simp only[go_sem,simprocAttr,Ge,hlen];refine bD (IX159 l b (.fn F [] cap) h) l.length (by omega) ⟨_,0,wac _,rfl,HK.refl _,by simp only[go_sem,simprocAttr],by simp only[go_sem,simprocAttr],by simp only[go_sem,simprocAttr],by simp only[go_sem,simprocAttr],rfl⟩ ?_;rintro j fr H ⟨tm,p,hp,rfl,k,t0,t1,t7,t8,hA⟩;unfold Hl;simp only[go_sem,simprocAttr,Gg,t7,t8];refine bj (fun hlt=>?_) (fun hge=>?_)
 ·have hlt:p<l.length:=by omega
  obtain⟨x,hx⟩:∃x,l[p]?=some x:=⟨_,wO hlt⟩
  have ia:=fun H=>aN ct hx .i64 H
  have hw2:=aM p (by omega);obtain⟨H',e1,k1⟩:=hf x (wS hx) H k;cases hb:b x with
  |true=>
   rw[hb]at e1;simp only[go_sem,simprocAttr,Am,An,t0,t1,t8,ia,e1];refine fin _ H' p (by simp only[go_sem,simprocAttr]) ?_ (k.trans k1);rw[show l.any b=true from List.any_eq_true.2 ⟨x,wS hx,hb⟩];exact HE (by omega)
  |false=>
   rw[hb]at e1;simp only[go_sem,simprocAttr,Am,An,t0,t1,t8,ia,e1,hw2];refine⟨j-1,by omega,_,p+1,by omega,rfl,k.trans k1,by simp only[go_sem,simprocAttr,t0],by simp only[go_sem,simprocAttr,t1],by simp only[go_sem,simprocAttr,t7],by simp only[go_sem,simprocAttr],?_⟩;rw[iY hx,hA,hb];rfl
 ·have:p=l.length:=by omega
  subst this;rw[List.take_length]at hA;simp only[go_sem,simprocAttr,Gf];exact fin _ H (-1) (by simp only[go_sem,simprocAttr]) (by rw[hA];rfl) k
theorem cx109 (hK:bW K)(m:Nat)(l:List LV)(hl:l.length<=50000)(b:LV->Bool)(F:Nat)(cap:List AV)(hcap:AV.ip cap=cap)(h:AH)
  (hf:∀x∈l,∀H,HK h H->∃H',cS K m (.fn F [] cap) [encV x] .no H=some (.ret (.bool (b x)),.no,H')/\HK H H') :
  ∃v h',cS K (m+2) (.fn 109 [] []) [.ls (l.map encV),.fn F [] cap] .no h=some (.ret v,.no,h')/\v=.bool (l.any b)/\HK h h':=by
 have can:∀h,eT (.fn F [] cap) h=(.fn F [] cap,h):=fun h=>by rw[jD,hcap];simp[AV.ip]
 refine cm (c:=[]) hK abG (ae (TM _ _) (ae (can _) (aB _))) ?_
 try simp only[wab]
 obtain⟨_,H',e1,⟨e,rfl,he⟩,k1⟩:=cx159 hK m l hl b F cap hcap h hf;unfold ae6;simp only[go_sem,simprocAttr,GH,e1,he];exact⟨rfl,rfl,.inr rfl,[.bool (l.any b)],by simp only[go_sem,simprocAttr,aeJ],.bool (l.any b),H',rfl,rfl,k1⟩
def IX160 (l:List T)(b:T->Bool)(fv:AV)(h0:AH)(j:Nat)(fr:AF)(h:AH):Prop:=∃tm p,p+j=l.length/\fr=⟨tm,⟨[],.no,none,160⟩⟩/\HK h0 h/\nth tm 0=.ls (l.map enc)/\nth tm 1=fv/\nth tm 7=wt (l.length:Int)/\nth tm 8=wt (p:Int)/\(l.take p).any b=false
theorem cx160 (hK:bW K)(m:Nat)(l:List T)(hl:l.length<=50000)(b:T->Bool)(F:Nat)(cap:List AV)(hcap:AV.ip cap=cap)(h:AH)
  (hf:∀x∈l,∀H,HK h H->∃H',cS K m (.fn F [] cap) [enc x] .no H=some (.ret (.bool (b x)),.no,H')/\HK H H') :
  ∃v h',cS K (m+1) (.fn 160 [] []) [.ls (l.map enc),.fn F [] cap] .no h=some (.ret v,.no,h')/\(∃e:Int,v=wt e/\decide (0<=e)=l.any b)/\HK h h':=by
 have can:∀h,eT (.fn F [] cap) h=(.fn F [] cap,h):=fun h=>by rw[jD,hcap];simp[AV.ip]
 refine cm (c:=[]) hK cf160 (ae (iL _ _) (ae (can _) (aB _))) ?_
 try simp only[wab]
 have hlen:∀H,lenOf (.ls (l.map enc)) H 1=some l.length:=fun H=>by rw[dL,waa]
 have fin:∀(tm:Tm) (H:AH) (e:Int),nth tm 4=wt e->decide (0<=e)=l.any b->HK h H->IQ aez (fun v h2=>∃v' h3,gT v h2=(v',h3)/\(∃e:Int,v'=wt e/\decide (0<=e)=l.any b)/\HK h h3) .ret ⟨tm,⟨[],.no,none,160⟩⟩ H:=by
  intro tm H e t4 he k;exact⟨rfl,rfl,.inr rfl,[wt e],by simp only[go_sem,simprocAttr,aez,t4],wt e,H,rfl,⟨e,rfl,he⟩,k⟩
 unfold b160;simp only[go_sem,simprocAttr,Rj,hlen];refine bD (IX160 l b (.fn F [] cap) h) l.length (by omega) ⟨_,0,wac _,rfl,HK.refl _,by simp only[go_sem,simprocAttr],by simp only[go_sem,simprocAttr],by simp only[go_sem,simprocAttr],by simp only[go_sem,simprocAttr],rfl⟩ ?_;rintro j fr H ⟨tm,p,hp,rfl,k,t0,t1,t7,t8,hA⟩;unfold Ub;simp only[go_sem,simprocAttr,Rm,t7,t8];refine bj (fun hlt=>?_) (fun hge=>?_)
 ·have hlt:p<l.length:=by omega
  obtain⟨x,hx⟩:∃x,l[p]?=some x:=⟨_,wO hlt⟩
  have ia:=fun H=>aN aZ hx .i64 H
  have hw2:=aM p (by omega);obtain⟨H',e1,k1⟩:=hf x (wS hx) H k;cases hb:b x with
  |true=>
   rw[hb]at e1;simp only[go_sem,simprocAttr,Gc,Gd,t0,t1,t8,ia,e1];refine fin _ H' p (by simp only[go_sem,simprocAttr]) ?_ (k.trans k1);rw[show l.any b=true from List.any_eq_true.2 ⟨x,wS hx,hb⟩];exact HE (by omega)
  |false=>
   rw[hb]at e1;simp only[go_sem,simprocAttr,Gc,Gd,t0,t1,t8,ia,e1,hw2];refine⟨j-1,by omega,_,p+1,by omega,rfl,k.trans k1,by simp only[go_sem,simprocAttr,t0],by simp only[go_sem,simprocAttr,t1],by simp only[go_sem,simprocAttr,t7],by simp only[go_sem,simprocAttr],?_⟩;rw[iY hx,hA,hb];rfl
 ·have:p=l.length:=by omega
  subst this;rw[List.take_length]at hA;simp only[go_sem,simprocAttr,Rl];exact fin _ H (-1) (by simp only[go_sem,simprocAttr]) (by rw[hA];rfl) k
theorem cx111 (hK:bW K)(m:Nat)(l:List T)(hl:l.length<=50000)(b:T->Bool)(F:Nat)(cap:List AV)(hcap:AV.ip cap=cap)(h:AH)
  (hf:∀x∈l,∀H,HK h H->∃H',cS K m (.fn F [] cap) [enc x] .no H=some (.ret (.bool (b x)),.no,H')/\HK H H') :
  ∃v h',cS K (m+2) (.fn 111 [] []) [.ls (l.map enc),.fn F [] cap] .no h=some (.ret v,.no,h')/\v=.bool (l.any b)/\HK h h':=by
 have can:∀h,eT (.fn F [] cap) h=(.fn F [] cap,h):=fun h=>by rw[jD,hcap];simp[AV.ip]
 refine cm (c:=[]) hK cf111 (ae (iL _ _) (ae (can _) (aB _))) ?_
 try simp only[wab]
 obtain⟨_,H',e1,⟨e,rfl,he⟩,k1⟩:=cx160 hK m l hl b F cap hcap h hf;unfold b111;simp only[go_sem,simprocAttr,SM,e1,he];exact⟨rfl,rfl,.inr rfl,[.bool (l.any b)],by simp only[go_sem,simprocAttr,r111],.bool (l.any b),H',rfl,rfl,k1⟩
theorem c110 (hK:bW K)(m pn:Nat)(n:Int)(hn0:0<=n)(hn1:n<=1000)(v:LV)(hv : -65536<=v.i)(hv2:v.i<1000)(h:AH)(g:h.get pn=some (.box [wt n]))(hl:pn<h.z):
  ∃v' h',cS K (m+1) (.fn 110 [] [.ptr pn 0 0]) [encV v] .no h=some (.ret v',.no,h')/\v'=.bool (decide (v.i < -n))/\HK h h':=by
 have can:eT (encV v) h=(encV v,h):=by rw[dG (lT v),oB]
 refine cm hK cf110 (ae can (aB _)) ?_;obtain⟨H,hH⟩:∃H:AH,H=h.new (.box [wt v.i,wt v.p]):=⟨_,rfl⟩
 have k0:HK h H:=by subst hH;exact HK.new _ _
 have x0:H.get h.z=some (.box [wt v.i,wt v.p]):=by subst hH;exact aE _ _
 have gn:=(k0.kw pn hl).trans g;have ev:encV v=.agg [wt v.i,wt v.p]:=rfl;have hw:IntKind.wrap .i64 (-1-v.i)=-1-v.i:=br _ (by omega) (by omega);have fin:∀(tm:Tm) (b:Bool),nth tm 3=.bool b->b=decide (v.i < -n)->IQ aeI (fun v' h2=>∃v'' h3,gT v' h2=(v'',h3)/\v''=AV.bool (decide (v.i < -n))/\HK h h3) .ret ⟨tm,⟨[],.no,none,110⟩⟩ H:=by
  intro tm b t3 hb;exact⟨rfl,rfl,.inr rfl,[.bool b],by simp only[go_sem,simprocAttr,aeI,t3],.bool b,H,rfl,by rw[hb],k0⟩
 rw[ev];unfold b110;simp only[go_sem,simprocAttr];rw[<-hH];clear hH;by_cases h1:v.i<0
 ·have d1:=HE h1;simp only[go_sem,simprocAttr,GG,x0,d1,hw,gn];refine fin _ (decide (n<=-1-v.i)) (by simp only[go_sem,simprocAttr]) ?_;by_cases h2:n<=-1-v.i
  ·rw[HE h2,HE (show v.i < -n by omega)]
  ·rw[HD h2,HD (show ¬v.i < -n by omega)]
 ·have d1:=HD h1;simp only[go_sem,simprocAttr,GG,x0,d1];exact fin _ false (by simp only[go_sem,simprocAttr]) (HD (by omega)).symm
def opL (n:Int)(l:LL):Bool:=l.v.any fun v=>decide (v.i < -n)
theorem adB (n:Int)(l:LL):opL n l=!scL n l:=by
 unfold opL scL;rw[List.not_all_eq_any_not];simp
theorem c108 (hK:bW K)(m pn:Nat)(n:Int)(hn0:0<=n)(hn1:n<=1000)(l:LL)(hl:PL l)(h:AH)(g:h.get pn=some (.box [wt n]))(hpl:pn<h.z):
  ∃h',cS K (m+4) (.fn 108 [] [.ptr pn 0 0]) [aK l] .no h=some (.ret (.bool (opL n l)),.no,h')/\HK h h':=by
 have key:∃v h',cS K (m+4) (.fn 108 [] [.ptr pn 0 0]) [aK l] .no h=some (.ret v,.no,h')/\v=.bool (opL n l)/\HK h h':=by
  refine cm hK cf108 (ae (tA _ _) (aB _)) ?_;obtain⟨H,hH⟩:∃H:AH,H=h.new (.box [wt l.c,.ls (l.v.map encV)]):=⟨_,rfl⟩
  have k0:HK h H:=by subst hH;exact HK.new _ _
  have x0:H.get h.z=some (.box [wt l.c,.ls (l.v.map encV)]):=by subst hH;exact aE _ _
  have gn:=(k0.kw pn hpl).trans g;have n0:=k0.z;have el:aK l=.agg [wt l.c,.ls (l.v.map encV)]:=rfl;obtain⟨hv,hlen⟩:=hl;obtain⟨_,H2,e2,rfl,k2⟩:=cx109 hK (m+1) l.v (by omega) (fun v=>decide (v.i < -n)) 110 [.ptr pn 0 0] (by simp[AV.ip,AV.norm]) H (fun v hvm H2 k2=>by
   obtain⟨i,hi,rfl⟩:=wag.1 hvm;have hr:=hv.rng i _ (wO hi);obtain⟨_,H3,e3,rfl,k3⟩:=c110 hK m pn n hn0 hn1 l.v[i] (by have:=hr.1;omega) (by have:=hr.2.1;omega) H2 ((k2.kw pn (by omega)).trans gn) (by have:=k2.z;omega);exact⟨H3,e3,k3⟩)
  rw[el];unfold b108;simp only[go_sem,simprocAttr];rw[<-hH];clear hH;simp only[go_sem,simprocAttr,SN,x0,e2];exact⟨rfl,rfl,.inr rfl,[.bool (opL n l)],by simp only[go_sem,simprocAttr,r108];rfl,.bool (opL n l),H2,rfl,rfl,k0.trans k2⟩
 obtain⟨_,h',e,rfl,k⟩:=key;exact⟨h',e,k⟩
theorem Iw {α:Type}(l:List α)(f:α->Bool):(l.any fun x=>!f x)=!l.all f:=by
 rw[List.not_all_eq_any_not]
theorem c66 (hK:bW K)(n:Int)(hn0:0<=n)(hn1:n<=1000):∀(s:Nat) (t:T) (m:Nat) (h:AH),size t<=s->4*s+8<=m->size t<=50000->Lq t->
  ∃h',cS K m (.fn 66 [] []) [enc t,wt n] .no h=some (.ret (.bool (!scT n t)),.no,h')/\HK h h':=by
 intro s;induction s with
 |zero=>intro t m h hs;have:=cG t;omega
 |succ s ih=>
  intro t m h hs hm h50 hq;obtain⟨m,rfl⟩:∃m',m=m'+12:=⟨m-12,by omega⟩
  have key:∃v h',cS K (m+12) (.fn 66 [] []) [enc t,wt n] .no h=some (.ret v,.no,h')/\v=.bool (!scT n t)/\HK h h':=by
   refine cm hK cf66 (ae (aP _ _) (ae (ba _ _ _) (aB _))) ?_;simp only[wab];obtain⟨H,hH⟩:∃H:AH,H=(h.new (.box (au t))).new (.box [wt n]):=⟨_,rfl⟩
   have k0:HK h H:=by subst hH;exact(HK.new _ _).add _
   have n0:H.z=h.z+2:=by subst hH;simp only[ci]
   have g2:H.get h.z=some (.box (au t)):=by subst hH;rw[aJ (by rw[ci];omega),aE]
   have g3:H.get (h.z+1)=some (.box [wt n]):=by subst hH;rw[<-ci h (.box (au t)),aE]
   obtain⟨l1,l2⟩:=hq.ls;obtain⟨_,H2,e2,rfl,k2⟩:=cx25 hK (m+9) t.L (by omega) (opL n) 108 [.ptr (h.z+1) 0 0] (by simp[AV.ip,AV.norm]) H (fun l hl H2 k2=>c108 hK (m+5) (h.z+1) n hn0 hn1 l (l2 l hl) H2 ((k2.kw _ (by omega)).trans g3) (by have:=k2.z;omega));have n2:=k2.z;have g22:=(k2.kw _ (by omega)).trans g2;have g32:=(k2.kw _ (by omega)).trans g3;have hkl:t.K.length<=size t/\∀x∈t.K,size x+1<=size t:=by
    have h1:=bE t.K;have h2:∀x∈t.K,size x<=aW t.K:=fun x hx=>by
     obtain⟨i,hi,rfl⟩:=wag.1 hx;exact ck (wO hi)
    cases t;simp only[T.K,size]at *;exact⟨by omega,fun x hx=>by have:=h2 x hx;omega⟩
   obtain⟨_,H3,e3,rfl,k3⟩:=cx111 hK (m+9) t.K (by omega) (fun x=>!scT n x) 112 [.ptr (h.z+1) 0 0] (by simp[AV.ip,AV.norm]) H2 (fun x hx H3 k3=>by
    have hsx:=hkl.2 x hx;have gn:=(k3.kw _ (by omega)).trans g32;have nn:=k3.z;obtain⟨i,hi,hxi⟩:=wag.1 hx;have hqx:Lq x:=hq.kid (a:=i) (by rw[wO hi,hxi]);have key:∃v h',cS K (m+9) (.fn 112 [] [.ptr (h.z+1) 0 0]) [enc x] .no H3=some (.ret v,.no,h')/\v=.bool (!scT n x)/\HK H3 h':=by
     refine cm hK cf112 (ae (aP _ _) (aB _)) ?_;obtain⟨H4,hH4⟩:∃H4:AH,H4=H3.new (.box (au x)):=⟨_,rfl⟩
     have k4:HK H3 H4:=by subst hH4;exact HK.new _ _
     have x4:H4.get H3.z=some (.box (au x)):=by subst hH4;exact aE _ _
     have gn4:=(k4.kw _ (by omega)).trans gn;obtain⟨H5,e5,k5⟩:=ih x (m+8) H4 (by omega) (by omega) (by omega) hqx;unfold au at hH4 x4;rw[aA x]at e5 ⊢;unfold b112;simp only[go_sem,simprocAttr];rw[<-hH4];clear hH4;simp only[go_sem,simprocAttr,SL,x4,gn4,e5];exact⟨rfl,rfl,.inr rfl,[.bool (!scT n x)],by simp only[go_sem,simprocAttr,r112],.bool (!scT n x),H5,rfl,rfl,k4.trans k5⟩
    obtain⟨_,h',e,rfl,k⟩:=key;exact⟨h',e,k⟩)
   have hsc:scT n t=(t.L.all (scL n)&&t.K.all (scT n)):=Ac n t;have hop:t.L.any (opL n)=!t.L.all (scL n):=by
    rw[<-Iw];congr 1;funext l;exact adB n l
   rw[Iw]at e3;have bi:∀H:AH,gU H 1 (wt n)=.val (.ptr H.z 0 0) (H.new (.box [wt n])):=fun H=>jE rfl
   unfold au at hH g2 g22;rw[aA t];unfold b66;simp only[go_sem,simprocAttr,bi,ci];rw[<-hH];clear hH;rw[hop]at e2;cases ha:t.L.all (scL n) with
   |true=>
    rw[ha]at e2 hsc;simp only[go_sem,simprocAttr,UR,US,g2,e2,g22,e3];exact⟨rfl,rfl,.inr rfl,[.bool (!t.K.all (scT n))],by simp only[go_sem,simprocAttr,r66],.bool (!t.K.all (scT n)),H3,rfl,by rw[hsc];simp,(k0.trans k2).trans k3⟩
   |false=>
    rw[ha]at e2 hsc;simp only[go_sem,simprocAttr,UR,US,g2,e2];exact⟨rfl,rfl,.inr rfl,[.bool true],by simp only[go_sem,simprocAttr,r66],.bool true,H2,rfl,by rw[hsc];simp,k0.trans k2⟩
  obtain⟨_,h',e,rfl,k⟩:=key;exact⟨h',e,k⟩
end
mutual
theorem vw:∀t:T,wh t=false↔∀x∈pre t,x.kind≠12
 |.mk k i nm ls ks=>by
  rw[wh,pre];simp only[Bool.or_eq_false_iff,decide_eq_false_iff_not,List.mem_cons,forall_eq_or_imp,xR ks];rfl
theorem xR:∀l:List T,vW l=false↔∀x∈pres l,x.kind≠12
 |[]=>by simp[vW,pres]
 |t::l=>by
  rw[vW,pres];simp only[Bool.or_eq_false_iff,List.mem_append,vw t,xR l];constructor
  ·rintro⟨h1,h2⟩ x (h|h)
   ·exact h1 x h
   ·exact h2 x h
  ·intro h;exact⟨fun x hx=>h x (.inl hx),fun x hx=>h x (.inr hx)⟩
end
structure P65 (h:AH)(tm0:Tm)(s:List T)(H:AH):Prop where
 ex:∃(L:List (Int×Bool)) (V:AV) (l:List Int),H.get (h.z+1)=some (.map (mpf zd L))/\H.get (h.z+3)=some (.box [V])/\Own (h.z+7) 1 false H V (l.map dF)/\(∀i b,lkf L i=some b->b=true/\l≠[])/\l.length<=s.length/\(l=[]↔∀x∈s,x.kind≠12)
 b2:H.get (h.z+2)=some (.box [.map (h.z+1)])
 lp:H.get (h.z+6)=some (.loop .ready none tm0 [10,11] nL nK 65)
 df:H.get (h.z+5)=some (.dfd false)
 nx:h.z+7<=H.z
 kw:HK h H
theorem P65.up {h:AH}{tm0:Tm}{s:List T}{H H':AH}(p:P65 h tm0 s H)(k:HK H H'):P65 h tm0 s H':=by
 have:=p.nx;obtain⟨L,V,l,e1,e2,e3,e4⟩:=p.ex;exact⟨⟨L,V,l,(k.kw _ (by omega)).trans e1,(k.kw _ (by omega)).trans e2,bp e3 k.z (fun a _ q=>k.kw a q),e4⟩,(k.kw _ (by omega)).trans p.b2,(k.kw _ (by omega)).trans p.lp,(k.kw _ (by omega)).trans p.df,Nat.le_trans p.nx k.z,p.kw.trans k⟩
theorem yld65 (call:aG)(n:Nat)(h:AH)(tm0:Tm)(t3:nth tm0 3=.ptr (h.z+2) 0 0)(t4:nth tm0 4=.ptr (h.z+3) 0 0)(s:List T)(H:AH)(d:Int)(k i:Int)(nm:ByteArray)(ls:List LL)(ks:List T)(p:P65 h tm0 s H)(hl:s.length<60000):
  ∃h',nG call n (h.z+6) [wt d,.agg [wt k,wt i,.str nm,.ls (ls.map aK),.ls (ks.map enc)]] H=some (.ret (.bool true),.no,h')/\P65 h tm0 (s++[.mk k i nm ls ks]) h'/\St (h.z+7) H h':=by
 have nx:=p.nx;obtain⟨L,V,l,e1,e2,e3,e4,e5,e6⟩:=p.ex;have b2:=p.b2;have df:=p.df;refine Zz p.lp rfl ?_;unfold nL;simp only[go_sem,simprocAttr];obtain⟨H1,hH1⟩:∃H1:AH,H1=(H.new (.box [wt 0,wt 0,.str (bs []),.nl,.nl])).set H.z (.box [wt k,wt i,.str nm,.ls (ls.map aK),.ls (ks.map enc)]):=⟨_,rfl⟩
 rw[<-hH1];have k1:HK H H1:=by subst hH1;exact HK.new_set _ _ _
 have x1:H1.get H.z=some (.box [wt k,wt i,.str nm,.ls (ls.map aK),.ls (ks.map enc)]):=by subst hH1;exact aC _ _ _
 have n1:H1.z=H.z+1:=by subst hH1;simp only[co,ci]
 clear hH1;have lp1:=(k1.kw _ (by omega)).trans p.lp;refine⟨_,sT lp1,?_⟩;obtain⟨H2,hH2⟩:∃H2:AH,H2=H1.set (h.z+6) (.loop .busy none tm0 [10,11] nL nK 65):=⟨_,rfl⟩
 rw[<-hH2];have o2:∀a,a≠h.z+6->H2.get a=H1.get a:=fun a q=>by subst hH2;exact an q
 have lp2:H2.get (h.z+6)=some (.loop .busy none tm0 [10,11] nL nK 65):=by subst hH2;exact aC _ _ _
 have n2:H2.z=H.z+1:=by subst hH2;rw[co];exact n1
 clear hH2;have f2:∀a,a<H.z->a≠h.z+6->H2.get a=H.get a:=fun a q1 q2=>by rw[o2 a q2,k1.kw a q1]
 have x2:=(o2 H.z (by omega)).trans x1;have m1:=(f2 (h.z+1) (by omega) (by omega)).trans e1;have m2:=(f2 (h.z+2) (by omega) (by omega)).trans b2;have m3:=(f2 (h.z+3) (by omega) (by omega)).trans e2;have lk:=qT zd m1 i (.bool false) false;have same:(l=[]↔∀x∈s++[T.mk k i nm ls ks],x.kind≠12)->∃h4,kB H2 (h.z+6) .ready none=some h4/\P65 h tm0 (s++[.mk k i nm ls ks]) h4/\St (h.z+7) H h4:=by
  intro hm;refine⟨_,sg (st':=.ready) (pend':=none) lp2,⟨⟨L,V,l,?_,?_,?_,e4,by rw[List.length_append];omega,hm⟩,?_,aC _ _ _,?_,by rw[co];omega,?_⟩,?_⟩
  ·rw[an (by omega)];exact m1
  ·rw[an (by omega)];exact m3
  ·exact bp e3 (by rw[co];omega) (fun a q1 q2=>by rw[an (by omega),f2 a q2 (by omega)])
  ·rw[an (by omega)];exact m2
  ·rw[an (by omega),f2 _ (by omega) (by omega)];exact df
  ·exact⟨by rw[co];have:=p.kw.z;omega,fun a q=>by rw[an (by omega),f2 a (by omega) (by omega)];exact p.kw.kw a q⟩
  ·refine⟨by rw[co];omega,fun a cs q1 q2 q3=>?_⟩;rw[an (by omega),f2 a q2 (by omega)];exact q3
 unfold nK;simp only[go_sem,simprocAttr,x2];by_cases hk:k=12
 ·have hk':decide (k=12)=true:=HE hk;cases hlk:lkf L i with
  |some b=>
   obtain⟨rfl,hne⟩:=e4 i b hlk;rw[hlk]at lk;have lk':gZ H2 1 (.bool false) false (.map (h.z+1)) (wt i)=some (.bool true):=lk;simp only[go_sem,simprocAttr,hk',t3,m2,x2,lk'];exact same ⟨fun q=>absurd q hne,fun q=>absurd hk (q (.mk k i nm ls ks) (by simp))⟩
  |none=>
   rw[hlk]at lk;simp only[cond_false]at lk;have mu:=zA zd m1 i true;have mu:kN H2 1 (.map (h.z+1)) (wt i) (.bool true)=some (H2.set (h.z+1) (.map (mpf zd (stf L i true)))):=mu;obtain⟨H3,hH3⟩:∃H3:AH,H3=H2.set (h.z+1) (.map (mpf zd (stf L i true))):=⟨_,rfl⟩
   rw[<-hH3]at mu;have o3:∀a,a≠h.z+1->H3.get a=H2.get a:=fun a q=>by subst hH3;exact an q
   have x3:H3.get (h.z+1)=some (.map (mpf zd (stf L i true))):=by subst hH3;exact aC _ _ _
   have n3:H3.z=H.z+1:=by subst hH3;rw[co];exact n2
   clear hH3;have ow3:Own (h.z+7) 1 false H3 V (l.map dF):=bp e3 (by omega) (fun a q1 q2=>by rw[o3 a (by omega),f2 a q2 (by omega)]);obtain⟨V',H4,ea,o4,n4,k4,_,_,kk4,k',g',hV',hv1,hv2⟩:=cV (bytes:=8) (x:=wt i) (z:=[wt 0]) ow3 (by omega) rfl rfl rfl rfl (by rw[waa];omega) (by decide);have m33:=(o3 (h.z+3) (by omega)).trans m3;have x23:=(o3 H.z (by omega)).trans x2;have m23:=(o3 (h.z+2) (by omega)).trans m2;have m34:=(k4 (h.z+3) (by omega)).trans m33;have hVc:V'.cells=[V']/\V'.lies=true:=by rw[hV'];exact⟨rfl,rfl⟩
   have fin:∃h4,kB (H4.set (h.z+3) (.box [V'])) (h.z+6) .ready none=some h4/\P65 h tm0 (s++[.mk k i nm ls ks]) h4/\St (h.z+7) H h4:=by
    have lp4:(H4.set (h.z+3) (.box [V'])).get (h.z+6)=some (.loop .busy none tm0 [10,11] nL nK 65):=by rw[an (by omega),k4 _ (by omega),o3 _ (by omega)];exact lp2
    refine⟨_,sg (st':=.ready) (pend':=none) lp4,⟨⟨stf L i true,V',l++[i],?_,?_,?_,?_,by simp only[List.length_append,List.length_cons,List.length_nil];omega,?_⟩,?_,aC _ _ _,?_,by simp only[co];omega,?_⟩,?_⟩
    ·rw[an (by omega),an (by omega),k4 _ (by omega)];exact x3
    ·rw[an (by omega)];exact aC _ _ _
    ·rw[List.map_append];exact bp o4 (by simp only[co];exact Fv _) (fun a q1 q2=>by rw[an (by omega),an (by omega)])
    ·intro j b q;rw[kK]at q;refine⟨?_,by simp⟩;split at q
     ·cases q;rfl
     ·exact(e4 j b q).1
    ·constructor
     ·intro q;simp at q
     ·intro q;exact absurd hk (q (.mk k i nm ls ks) (by simp))
    ·rw[an (by omega),an (by omega),k4 _ (by omega)];exact m23
    ·rw[an (by omega),an (by omega),k4 _ (by omega),o3 _ (by omega),f2 _ (by omega) (by omega)];exact df
    ·exact⟨by simp only[co];have:=p.kw.z;omega,fun a q=>by rw[an (by omega),an (by omega),k4 a (by omega),o3 a (by omega),f2 a (by omega) (by omega)];exact p.kw.kw a q⟩
    ·refine⟨by simp only[co];omega,fun a cs q1 q2 q3=>?_⟩;rw[an (by omega),an (by omega),kk4 a (by omega) (fun g n e=>?_),o3 a (by omega),f2 a q2 (by omega)]
     ·exact q3
     ·obtain⟨_,⟨r,_⟩|⟨k2,g2,r,r2,_,_⟩⟩:=e3
      ·rw[r]at e;cases e
      ·rw[r]at e;injection e with z1;subst z1;rw[q3]at r2;cases r2
   simp only[go_sem,simprocAttr,hk',t3,t4,m2,x2,x23,lk,mu,m33,ea,m34,hVc.1,hVc.2];exact fin
 ·have hk':decide (k=12)=false:=HD hk;simp only[go_sem,simprocAttr,hk'];refine same ⟨fun q x hx=>?_,fun q=>e6.2 (fun x hx=>q x (by simp[hx]))⟩;rcases List.mem_append.1 hx with hx|hx
  ·exact e6.1 q x hx
  ·simp at hx;subst hx;exact hk
theorem c65 {K:aG}(hK:bW K)(kb:KB K)(m:Nat)(t:T)(h:AH)(hm:size t+3<=m)(h50:size t<=50000):
  ∃v h',cS K (m+1) (.fn 65 [] []) [enc t] .no h=some (.ret v,.no,h')/\(∃l:List Int,v=.ls (l.map dF)/\decide ((0:Int)<(l.length:Int))=wh t)/\HK h h':=by
 obtain⟨m,rfl⟩:∃m',m=m'+1:=⟨m-1,by omega⟩
 refine IX hK cf65 (ae (aP _ _) (aB _)) ?_;simp only[wab];rw[aA t];unfold b65;simp only[go_sem,simprocAttr,aah,aai,aaj];obtain⟨H,hH⟩:∃H:AH,H=((((h.new (.box (au t))).new (.map [])).new (.box [.nilm])).set (h.z+1+1) (.box [.map (h.z+1)])).new (.box [.nl]):=⟨_,rfl⟩
 have nH:H.z=h.z+4:=by subst hH;simp only[co,ci]
 have kH:HK h H:=by subst hH;exact((((HK.new _ _).add _).add _).set _ (by omega)).add _
 have g1:H.get h.z=some (.box (au t)):=by subst hH;rw[aJ (by simp only[co,ci];omega),an (by omega),aJ (by simp only[ci];omega),aJ (by simp only[ci];omega),aE]
 have gm:H.get (h.z+1)=some (.map []):=by
  subst hH;rw[aJ (by simp only[co,ci];omega),an (by omega),aJ (by simp only[ci];omega),<-ci h (.box (au t)),aE]
 have g2:H.get (h.z+2)=some (.box [.map (h.z+1)]):=by
  subst hH;rw[aJ (by simp only[co,ci];omega),aC]
 have g3:H.get (h.z+3)=some (.box [.nl]):=by
  subst hH;have:h.z+3=((((h.new (.box (au t))).new (.map [])).new (.box [.nilm])).set (h.z+1+1) (.box [.map (h.z+1)])).z:=by simp only[co,ci]
  rw[this,aE]
 have st2:cR (.ptr (h.z+1+1) 0 0) (((h.new (.box (au t))).new (.map [])).new (.box [.nilm])) 1 (.map (h.z+1))=some ((((h.new (.box (au t))).new (.map [])).new (.box [.nilm])).set (h.z+1+1) (.box [.map (h.z+1)])):=by
  have e:(((h.new (.box (au t))).new (.map [])).new (.box [.nilm])).get (h.z+1+1)=some (.box [.nilm]):=by
   have:h.z+1+1=((h.new (.box (au t))).new (.map [])).z:=by simp only[ci]
   rw[this,aE]
  rw[eF (v:=.map (h.z+1)) _ 0 0 1 rfl rfl,e];rfl
 have hH':=hH;unfold au at hH' st2;have g1':=g1;unfold au at g1';obtain⟨_,_,e81,rfl,rfl⟩:=c81 hK m t H;rw[aA]at e81;simp only[go_sem,simprocAttr,ci,co];rw[<-hH'];clear hH hH' st2;simp only[go_sem,simprocAttr,g1',e81,nH];have fin:∀tm:Tm,nth tm 3=.ptr (h.z+2) 0 0->nth tm 4=.ptr (h.z+3) 0 0->nth tm 9=.fn 122 [] [.ptr (h.z+4) 0 0]->
   R (cS K (m+1)) 60000 [.code (.rangeFunc (.t 9) [10,11] nL nK),.out 0,.code UT] (IDQ (cS K (m+1)) r65 fun v h2=>∃v' h3,gT v h2=(v',h3)/\(∃l:List Int,v'=.ls (l.map dF)/\decide ((0:Int)<(l.length:Int))=wh t)/\HK h h3) .normal ⟨tm,⟨[],.no,none,65⟩⟩ (H.new (.box (au t))):=by
  intro tm t3 t4 t9;obtain⟨H0,hH0⟩:∃H0:AH,H0=H.new (.box (au t)):=⟨_,rfl⟩
  rw[<-hH0];have k0:HK H H0:=by subst hH0;exact HK.new _ _
  have n0:H0.z=h.z+5:=by subst hH0;rw[ci,nH]
  have x0:H0.get (h.z+4)=some (.box (au t)):=by subst hH0;rw[<-nH];exact aE _ _
  clear hH0;obtain⟨H1,hH1⟩:∃H1:AH,H1=(H0.new (.dfd false)).new (.loop .ready none tm [10,11] nL nK 65):=⟨_,rfl⟩
  have k1:HK H0 H1:=by subst hH1;exact(HK.new _ _).add _
  have n1:H1.z=h.z+7:=by subst hH1;simp only[ci,n0]
  have k01:=k0.trans k1;have P1:P65 h tm [] H1:=by
   refine⟨⟨[],.nl,[],(k01.kw _ (by omega)).trans gm,(k01.kw _ (by omega)).trans g3,fD _ _ _ _,fun i b e=>(by cases e),Fv _,by simp⟩,(k01.kw _ (by omega)).trans g2,?_,?_,by omega,(kH.trans k0).trans k1⟩
   ·subst hH1;have:(H0.new (.dfd false)).z=h.z+6:=by rw[ci,n0]
    rw[<-this];exact aE _ _
   ·subst hH1;rw[aJ (by rw[ci];omega),<-n0];exact aE _ _
  obtain⟨v2,h2,e2,rfl,P2,S2⟩:=c122 (P:=P65 h tm) (B:=h.z+7) (L:=h.z+6) (lim:=60000) hK kb (fun s a b p k=>p.up k) (fun m s H d k i nm ls ks p hl _=>yld65 _ _ h tm t3 t4 s H d k i nm ls ks p hl) m t (h.z+4) H1 (by omega) h50 (by omega) ((k1.kw _ (by omega)).trans x0) (by omega) (by omega) P1;refine uJ (h.z+5) (h.z+6) n0 rfl (by rw[aeP,t9,<-hH1];exact e2) P2.lp rfl ?_;obtain⟨L,V,l,e1,e3,e4,e5,e6,e7⟩:=P2.ex;have nx2:=P2.nx;have g33:(h2.set (h.z+6) (.loop .exhausted none tm [10,11] nL nK 65)).get (h.z+3)=some (.box [V]):=(an (by omega)).trans e3;have d3:(h2.set (h.z+6) (.loop .exhausted none tm [10,11] nL nK 65)).get (h.z+5)=some (.dfd false):=(an (by omega)).trans P2.df;have kf:HK h (h2.set (h.z+6) (.loop .exhausted none tm [10,11] nL nK 65)):=P2.kw.set _ (by omega);have ow:Own (h.z+7) 1 false ((h2.set (h.z+6) (.loop .exhausted none tm [10,11] nL nK 65)).set (h.z+5) (.dfd true)) V (l.map dF):=bp e4 (by simp only[co];exact Fv _) (fun a q1 q2=>by rw[an (by omega),an (by omega)]);obtain⟨H9,ec,n9,k9⟩:=vp ow;have hlen:decide ((0:Int)<(l.length:Int))=wh t:=by
   cases hh:wh t with
   |false=>
    have:l=[]:=e7.2 ((vw t).1 hh);subst this;rfl
   |true=>
    refine HE ?_;cases l with
    |nil=>have:=(vw t).2 (e7.1 rfl);rw[hh]at this;cases this
    |cons a l=>simp only[List.length_cons];omega
  have hVt:∀l,V≠.tup l:=by
   obtain⟨_,⟨r,_⟩|⟨_,_,r,_⟩⟩:=e4
   ·rw[r];intro l e;cases e
   ·rw[r];intro l e;cases e
  revert g33 d3 kf ec n9 k9;generalize h2.set (h.z+6) (.loop .exhausted none tm [10,11] nL nK 65)=H3;intro g33 d3 kf ec n9 k9;simp only[go_sem,simprocAttr,UT,t4,g33];refine⟨rfl,.inr rfl,_,ye d3,[V],by simp only[go_sem,simprocAttr,r65],_,H9,cC hVt ec,⟨l,rfl,hlen⟩,?_⟩;exact⟨by rw[n9,co];exact kf.z,fun a q=>by rw[k9 a (by omega),an (by omega)];exact kf.kw a q⟩
 exact fin _ (by simp only[go_sem,simprocAttr]) (by simp only[go_sem,simprocAttr]) (by simp only[go_sem,simprocAttr])
structure KA (K:aG)(vals:List LL):Prop where
 r67:∀(t:T) (h:AH),size t<=2000->Lq t->K (.fn 67 [] []) [enc t,.ls (vals.map aK)] .no h=some (.ret (.tup [enc (fj vals t).1,wt (fj vals t).2]),.no,h)
theorem c23 {K:aG}(hK:bW K)(kb:KB K)(kf:KF K)(kp:KP K){vals:List LL}(ka:KA K vals)(hvl:vals.length<=1000)(s:SV)(g:wb s.ms)(hsz:∀m∈s.ms,size m.val<=60)
  (t:T) (d:Int) (h:AH) (hs:size t<=60) (hd0:0<=d) (hd1:d+size t<=1000) (hok:Ok PL s.ms.length t d) (f:Int) (hf:(FillR s.ms t (some 0)).2.2=some f) :
  ∃v h',cS K 20602 (.fn 23 [] []) [od s,.ls (vals.map aK),enc t] .no h=some (.ret v,.no,h')/\v=.tup [enc (finR s.ms vals t).1,wt (finR s.ms vals t).2]/\HK h h':=by
 refine cm hK cf23 (ae (My _ _) (ae (kG _ _) (ae (aP _ _) (aB _)))) ?_;simp only[wab];have fok:=fun h0=>vQ g hs hd0 hok (c:=some 0) (f:=f) h0 hf
 have c64':=fun H=>c64 hK kb kf kp s.ms g hsz 20600 (by omega) t d f H hs hd0 hd1 hok hf
 obtain⟨Q,hQ⟩:∃Q,Q=finR s.ms vals t:=⟨_,rfl⟩
 rw[<-hQ];unfold finR at hQ;revert fok c64' hQ hf;generalize FillR s.ms t (some 0)=q;intro hf fok c64' hQ;rw[hf]at hQ;simp only at hQ;rw[aA t]at c64' ⊢;unfold od;unfold b23;obtain⟨H,hH⟩:∃H:AH,H=(((h.new (.box [.ls (s.ms.map cD),.ls (s.qs.map gC),.ls (s.bs.map cQ),wt s.n])).new (.box [wt t.kind,wt t.i,.str t.name,.ls (t.L.map aK),.ls (t.K.map enc)])).new (.box [wt 0,wt 0,.str (bs []),.nl,.nl])):=⟨_,rfl⟩
 have k0:HK h H:=by subst hH;exact((HK.new _ _).add _).add _
 have n0:H.z=h.z+3:=by subst hH;simp only[ci]
 have g4:H.get h.z=some (.box [.ls (s.ms.map cD),.ls (s.qs.map gC),.ls (s.bs.map cQ),wt s.n]):=by subst hH;rw[aJ (by simp only[ci];omega),aJ (by simp only[ci];omega),aE]
 have g6:H.get (h.z+1)=some (.box [wt t.kind,wt t.i,.str t.name,.ls (t.L.map aK),.ls (t.K.map enc)]):=by
  subst hH;rw[aJ (by simp only[ci];omega),<-ci h (.box [.ls (s.ms.map cD),.ls (s.qs.map gC),.ls (s.bs.map cQ),wt s.n]),aE]
 have g8:H.get (h.z+1+1)=some (.box [wt 0,wt 0,.str (bs []),.nl,.nl]):=by
  subst hH;have:h.z+1+1=((h.new (.box [.ls (s.ms.map cD),.ls (s.qs.map gC),.ls (s.bs.map cQ),wt s.n])).new (.box [wt t.kind,wt t.i,.str t.name,.ls (t.L.map aK),.ls (t.K.map enc)])).z:=by simp only[ci]
  rw[this,aE]
 simp only[go_sem,simprocAttr];rw[<-hH];clear hH;obtain⟨_,h2,e2,rfl,k2⟩:=c64' H;have n2:=k2.z;have hst:=aQ (h:=h2.new (.box [wt 0,wt 0,.str (bs []),.nl,.nl])) (k:=h2.z) (aE _ _) q.1;obtain⟨H3,hH3⟩:∃H3:AH,H3=(h2.new (.box [wt 0,wt 0,.str (bs []),.nl,.nl])).set h2.z (.box (au q.1)):=⟨_,rfl⟩
 have k3:HK h2 H3:=by subst hH3;exact HK.new_set _ _ _
 have x3:H3.get h2.z=some (.box (au q.1)):=by subst hH3;exact aC _ _ _
 have n3:H3.z=h2.z+1:=by subst hH3;simp only[co,ci]
 rw[<-hH3]at hst;clear hH3;have kk:=(k0.trans k2).trans k3;have g83:=(k3.kw (h.z+1+1) (by omega)).trans ((k2.kw _ (by omega)).trans g8);have fin:∀tm H4,nth tm 6=.ptr (h.z+1+1) 0 0->nth tm 7=wt Q.2->H4.get (h.z+1+1)=some (.box (au Q.1))->HK h H4->
   IQ r23 (fun v h2=>∃v' h3,gT v h2=(v',h3)/\v'=.tup [enc Q.1,wt Q.2]/\HK h h3) .ret ⟨tm,⟨[],.no,none,23⟩⟩ H4:=by
  intro tm H4 t8 t9 g k;unfold au at g;exact⟨rfl,rfl,.inr rfl,[.agg [_,_,_,_,_],wt Q.2],by simp only[go_sem,simprocAttr,r23,t8,t9,g],_,_,bG (ae (iG (ir (eC _) (eL _)) _) (ae (ba _ _ _) (aB _))),rfl,k⟩
 have finZ:∀tm H4 (e:Int),nth tm 6=.ptr (h.z+1+1) 0 0->nth tm 7=wt e->H4.get (h.z+1+1)=some (.box [wt 0,wt 0,.str (bs []),.nl,.nl])->HK h H4->Q=(tZ,e)->
   IQ r23 (fun v h2=>∃v' h3,gT v h2=(v',h3)/\v'=.tup [enc Q.1,wt Q.2]/\HK h h3) .ret ⟨tm,⟨[],.no,none,23⟩⟩ H4:=by
  intro tm H4 e t8 t9 g k eq;subst eq;exact⟨rfl,rfl,.inr rfl,[.agg [_,_,_,_,_],wt e],by simp only[go_sem,simprocAttr,r23,t8,t9,g],_,_,bG (ae (pU _) (ae (ba _ _ _) (aB _))),rfl,k⟩
 unfold au at x3;by_cases he:q.2.1=0
 ·have he':decide (q.2.1=0)=true:=HE he;obtain⟨sz,dp,okx⟩:=fok he;rw[wad (by simpa using he)]at hQ;obtain⟨_,H4,e4,⟨l,rfl,hm4⟩,k4⟩:=c65 hK kb 20600 q.1 H3 (by omega) (by omega);rw[aA q.1]at e4;have n4:=k4.z;have x4:=(k4.kw _ (by omega)).trans x3;have g84:=(k4.kw (h.z+1+1) (by omega)).trans g83;have kk4:=kk.trans k4;cases hm:wh q.1 with
  |true=>
   rw[hm]at hm4;rw[wae hm]at hQ;simp only[go_sem,simprocAttr,ci,AY,g4,g6,e2,hst,AZ,he',ET,x3,e4,waa,hm4,g84];exact finZ _ _ 23 (by simp only[go_sem,simprocAttr]) (by simp only[go_sem,simprocAttr]) (aC _ _ _) (kk4.set _ (by omega)) hQ
  |false=>
   rw[hm]at hm4;rw[wad (by simp[hm])]at hQ;obtain⟨H5,e5,k5⟩:=c66 hK (vals.length:Int) (by omega) (by omega) 2000 q.1 20601 H4 (by omega) (by omega) (by omega) ⟨_,_,okx⟩;rw[aA q.1]at e5;have n5:=k5.z;have x5:=(k5.kw _ (by omega)).trans x4;have g85:=(k5.kw (h.z+1+1) (by omega)).trans g84;have kk5:=kk4.trans k5;cases hsc:scT vals.length q.1 with
   |false=>
    rw[hsc]at e5;rw[wad (by simp[hsc])]at hQ;simp only[go_sem,simprocAttr,ci,AY,g4,g6,e2,hst,AZ,he',ET,x3,e4,waa,hm4,Mn,x4,e5,g85];exact finZ _ _ 24 (by simp only[go_sem,simprocAttr]) (by simp only[go_sem,simprocAttr]) (aC _ _ _) (kk5.set _ (by omega)) hQ
   |true=>
    rw[hsc]at e5;rw[wae hsc]at hQ;have e6:cS K 20601 (.fn 67 [] []) [enc q.1,.ls (vals.map aK)] .no H5=some (.ret (.tup [enc (fj vals q.1).1,wt (fj vals q.1).2]),.no,H5):=
     dP (ae (aP _ _) (ae (kG _ _) (aB _))) (ka.r67 q.1 H5 (by omega) ⟨_,_,okx⟩) (bG (ae (aP _ _) (ae (ba _ _ _) (aB _)))) 20601
    rw[<-hQ,aA q.1]at e6;have hst6:=aQ (h:=H5) (k:=h2.z) x5 Q.1;by_cases hz:Q.2=0
    ·have hz':decide (Q.2=0)=true:=HE hz;obtain⟨H6,hH6⟩:∃H6:AH,H6=H5.set h2.z (.box (au Q.1)):=⟨_,rfl⟩
     have x6:H6.get h2.z=some (.box (au Q.1)):=by subst hH6;exact aC _ _ _
     have g86:H6.get (h.z+1+1)=some (.box [wt 0,wt 0,.str (bs []),.nl,.nl]):=by subst hH6;rw[an (by omega)];exact g85
     have kk6:HK h H6:=by subst hH6;exact kk5.set _ (by omega)
     rw[<-hH6]at hst6;clear hH6;have hs7:=aQ g86 Q.1;rw[aA Q.1]at hs7;unfold au at x6;simp only[go_sem,simprocAttr,ci,AY,g4,g6,e2,hst,AZ,he',ET,x3,e4,waa,hm4,Mn,x4,e5,Vo,x5,e6,hst6,Vp,hz',aa4,x6,hs7];exact fin _ _ (by simp only[go_sem,simprocAttr]) (by simp only[go_sem,simprocAttr,hz]) (aC _ _ _) (kk6.set _ (by omega))
    ·have hz':decide (Q.2=0)=false:=HD hz;have g86:(H5.set h2.z (.box (au Q.1))).get (h.z+1+1)=some (.box [wt 0,wt 0,.str (bs []),.nl,.nl]):=by rw[an (by omega)];exact g85
     simp only[go_sem,simprocAttr,ci,AY,g4,g6,e2,hst,AZ,he',ET,x3,e4,waa,hm4,Mn,x4,e5,Vo,x5,e6,hst6,Vp,hz',g86];have hQ1:Q=(tZ,Q.2):=by
      unfold fj at hQ;split at hQ
      ·rw[hQ]
      ·rw[hQ]at hz;exact absurd rfl hz
     exact finZ _ _ Q.2 (by simp only[go_sem,simprocAttr]) (by simp only[go_sem,simprocAttr]) (aC _ _ _) ((kk5.set _ (by omega)).set _ (by omega)) hQ1
 ·have he':decide (q.2.1=0)=false:=HD he;rw[wae he]at hQ;simp only[go_sem,simprocAttr,ci,AY,g4,g6,e2,hst,AZ,he',g83];exact finZ _ _ q.2.1 (by simp only[go_sem,simprocAttr]) (by simp only[go_sem,simprocAttr]) (aC _ _ _) (kk.set _ (by omega)) hQ
