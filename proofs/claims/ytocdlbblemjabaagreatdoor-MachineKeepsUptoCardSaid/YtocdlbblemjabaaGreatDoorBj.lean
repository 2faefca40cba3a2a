/- MachineKeeps: normal forms (no condition). -/
import Derived.Test.YtocdlbblemjabaaGreatDoorBi
namespace Go.Proofs.YtocdlbblemjabaaGreatDoor
open Go.AG Go.AG.MK
section
variable {C:MK.Cx}{W:T->Option T}{N:Nat}
mutual
theorem YP (hW:∀ x,size x<=N->Nf C x->W x=some x):∀ (t:eY) (vars:List T),(∀ x∈vars,size x<=N/\Nf C x)->mtT C W t vars=mtT C some t vars
 |.mk k body v brs,vars,hv=>by
  unfold mtT;by_cases hk:k=1
  ·rw[P_ hk,P_ hk];by_cases hv0:0<=v
   ·rw[P_ hv0,P_ hv0];cases hx:vars[v.toNat]? with
    |none=>rfl
    |some x=>
     obtain⟨x1,x2⟩:=hv x (m_ hx);simp only;rw[hW x x1 x2];simp only;cases hc:dy C x with
     |none=>rfl
     |some d=>
      refine YS hW brs _ _ (fun y hy=>?_);rcases List.mem_append.1 hy with hy|hy
      ·exact hv y hy
      ·have:=yC x2 hc y hy;exact⟨o_,this.1⟩
   ·rw[N_ hv0,N_ hv0]
  ·rw[N_ hk,N_ hk]
theorem YS (hW:∀ x,size x<=N->Nf C x->W x=some x):∀ (l:List Br) (nm:ByteArray) (vars:List T),(∀ x∈vars,size x<=N/\Nf C x)->mtB C W l nm vars=mtB C some l nm vars
 |[],_,_,_=>by unfold mtB;rfl
 |.mk c ab t::l,nm,vars,hv=>by
  unfold mtB;by_cases hc:c=nm
  ·rw[P_ hc,P_ hc];cases ab with
   |true=>rfl
   |false=>exact YP hW t vars hv
  ·rw[N_ hc,N_ hc];exact YS hW l nm vars hv
end
theorem abA (hW:∀ x,size x<=N->Nf C x->W x=some x){h:T}{as_:List T}(hk:∀ x∈h.K,size x<=N/\Nf C x)(ha:∀ x∈as_,size x<=N/\Nf C x):MK.step C W h as_=MK.step C some h as_:=by
 obtain⟨k,i,nm,ls,ks⟩:=h;unfold MK.step;simp only[T.kind,T.K,T.name,T.L]at hk ⊢;split
 ·rfl
 ·rfl
 ·rfl
 ·rename_i kk;rw[hW kk (hk kk (by simp)).1 (hk kk (by simp)).2]
 ·rename_i kk;rw[hW kk (hk kk (by simp)).1 (hk kk (by simp)).2]
 ·cases hc:C.cst nm ls.length with
  |rigid=>rfl
  |dfn v=>rfl
  |rcr first at_ fam rules=>
   simp only;cases hx:as_[at_]? with
   |none=>rfl
   |some a=>
    simp only;rw[hW a (ha a (m_ hx)).1 (ha a (m_ hx)).2]
  |fn arity tree=>
   simp only;rw[YP hW tree _ (fun x hx=>ha x (List.mem_of_mem_take hx))]
 ·rfl
end
theorem wf_ex (C:MK.Cx):∀ (N:Nat),∃ n,∀ u,size u<=N->Nf C u->wf C n u []=some u:=by
 intro N;induction N with
 |zero=>exact⟨0,fun u h=>by have:=bZ u;omega⟩
 |succ N ih=>
  obtain⟨n,ih⟩:=ih;refine⟨n+1+(N+1),fun u hu q=>?_⟩;obtain⟨h,as_,rfl,hk,ha,s⟩:=q.inv;have hs:=kj h as_;have e:=abA (C:=C) (W:=fun t=>wf C n t []) (N:=N) (fun x x1 x2=>ih x x1 x2) (h:=h) (as_:=as_) (fun x hx=>⟨by have:=pb hx;omega,hk x hx⟩) (fun x hx=>⟨by have:=cL hx;have:=bZ h;omega,ha x hx⟩);have w:wf C (n+1) h (as_++[])=some (cY h as_):=by
   unfold wf;rw[A_,e,s.2]
  exact wV o_ (wU C [] as_ w)
theorem nf_ex (C:MK.Cx):∀ (N:Nat),∃ n,∀ u,size u<=N->Nf C u->nf C n u=some u:=by
 intro N;induction N with
 |zero=>exact⟨0,fun u h=>by have:=bZ u;omega⟩
 |succ N ih=>
  obtain⟨n,ih⟩:=ih;obtain⟨w,hw⟩:=wf_ex C (N+1);refine⟨max n w+1,fun u hu q=>?_⟩;have e:=wV (Nat.le_max_right n w) (hw u hu q);obtain⟨h,as_,rfl,hk,ha,s⟩:=q.inv;have hs:=kj h as_;have id:∀ l:List T,(∀ x∈l,nf C (max n w) x=some x)->jr (nf C (max n w)) l=some l:=by
   intro l;induction l with
   |nil=>intro _;rfl
   |cons x l ihl=>
    intro q;unfold jr;rw[q x (by simp),ihl fun y hy=>q y (by simp[hy])]
  unfold nf;rw[e];simp only[parts,gR s.1];rw[id _ fun x hx=>Cz (Nat.le_max_left n w) (ih x (by have:=pb hx;omega) (hk x hx)),id _ fun x hx=>Cz (Nat.le_max_left n w) (ih x (by have:=cL hx;have:=bZ h;omega) (ha x hx))];cases h;rfl
theorem abV {C:MK.Cx}{t u:T}(h:Rl C t u):Rl C u u:=by
 obtain⟨n,h⟩:=h;obtain⟨m,q⟩:=nf_ex C (size u);exact⟨m,q u (e_ _) (afo n t u h)⟩
theorem rl_of {C:MK.Cx}{t p u:T}{n:Nat}(w:Wh C t p)(q:parts (nf C n) p=some u):Rl C t u:=by
 obtain⟨k,w⟩:=w;refine⟨max k n+1,?_⟩;unfold nf;rw[wV (Nat.le_max_left k n) w];simp only;exact uJ (fun t u e=>Cz (Nat.le_max_right k n) e) p u q
theorem akg {K:aQ}(hK:aZ K){m f:Nat}{b c a a':List AV}{h:AH}(e0:iw a h=(a',h))(e1:iw (b++a) h=(b++a',h))(hf:f∈xW:=by decide)(hn:niM.contains f=false:=by decide)(hd:dpM.contains f=false:=by decide):
  cS K (m+1) (.fn f b c) a .no h=cS K (m+1) (.fn f [] c) (b++a) .no h:=by
 have ev:wZ (.fn f b c) EG (cS K m) 1000000000000 a' .no h=wZ (.fn f [] c) EG (cS K m) 1000000000000 (b++a') .no h:=by
  show lE EG _ _ f (app b (app a' c)) .no h=lE EG _ _ f (app [] (app (b++a') c)) .no h;simp only[gT,List.nil_append,List.append_assoc]
 have k1:=hK.bnd f hf b c a' .no h;have k2:=hK.bnd f hf [] c (b++a') .no h;refine(rC (ni:=niM) e0 (show fidIn niM (.fn f b c)=false from hn)).trans (Eq.trans ?_ (rC (ni:=niM) e1 (show fidIn niM (.fn f [] c)=false from hn)).symm);unfold zW;rw[show fidIn noM (.fn f b c)=fidIn noM (.fn f [] c) from rfl];cases fidIn noM (.fn f [] c) with
 |true=>simp only[kE (dp:=dpM) (f:=.fn f b c) hd,kE (dp:=dpM) (f:=.fn f [] c) hd,k1,k2];exact ev
 |false=>simp only[kE (dp:=dpM) (f:=.fn f b c) hd,kE (dp:=dpM) (f:=.fn f [] c) hd,k1,k2];exact congrArg uo ev
section
variable {K:aQ}{A:Ma}{B B1:Nat}{env:List DV}{inst:T->List LL->Option T}
def Nq (K:aQ)(A:Ma)(B B1:Nat)(E:AV)(C:MK.Cx)(m:Nat)(v0:Int):Prop:=∀ (M:Ms) (gN gF:Nat) (h:AH) (x:Int) (t:T),St A B B1 E M gN gF h->Wg M->Ct M->Mem C M->v0<=M.vis->At M.ts x t->
 Mc K m A B B1 E (35) [] [.ptr A.a 0 0,i_ x] M h fun M' v=>Mx C M M'/\∃ r u,v=i_ r/\At M'.ts r u/\Rl C t u
theorem c1035 (hK:aZ K)(km:KM K)(kg:KG K)(eg:Eg env){m0:Nat}(ci:Ci K A B B1 (.ls (env.map bW)) inst m0):
  ∀ (n:Nat) (v0:Int),(4000001-v0).toNat<=n->∀ m,50000000+m0+10*n<=m->Nq K A B B1 (.ls (env.map bW)) (Ce env inst) m v0:=by
 intro n;induction n with
 |zero=>
  intro v0 hn m hm M gN gF h x t s g c mem hv hx;have:=c.v1;omega
 |succ n ih=>
 intro v0 hn m hm M gN gF h x t s g c mem hv hx;obtain⟨m,rfl⟩:∃ k,m=k+3:=⟨m-3,o_⟩
 refine fG hK ajY (ae (bD _ _ _ _) (ae (aG _ _ _) (aC _))) ?_;have b1:=s.b1;have ra:=s.ok.rng;have gA:=s.gA;have hlk:=fun z=>kY (kf:=AG.aO) (t:=1) AG.aO dI s.gM x z true
 unfold mL at gA;have hlk':∀ z,fm h 1 z true (.map A.kM) (i_ x)=_:=hlk
 unfold ag9;simp only[go_sem,simprocAttr,Ns,gA,hlk'];cases hw:lkg M.n x with
 |some o=>
  obtain⟨t',u,a1,a2,wh⟩:=mem.n _ (sF hw);have:=hx.det a1;subst this;simp only[go_sem,simprocAttr,AG.aO];exact fR (.inr rfl) (by simp only[go_sem,simprocAttr,aaN]) (HM.refl h) ⟨M,gN,gF,s,g,Le.refl M,Mx.refl c mem,o,u,rfl,a2,wh⟩
 |none=>
  obtain⟨o1,H1,e1,hm1,q1⟩:=Iv (h:=h) hK (m:=m+2) o_ s g c;simp only[go_sem,simprocAttr,Nt];rcases q1 with⟨v,rfl,rfl,M3,gN3,gF3,st3,g3,le3,hM3,sv3⟩|rfl
  ·have v3:M3.vis=M.vis+1:=by rw[hM3]
   have mx3:=sv3.mx c mem le3;clear hM3;have cv0:=c.v0;obtain⟨o4,H4,e4,hm4,q4⟩:=c1031 hK km kg eg ci 4000001 0 o_ (m+2) o_ M3 gN3 gF3 H1 x t st3 g3 mx3.ct mx3.mem o_ (le3.at hx);simp only[go_sem,simprocAttr,e1,Nu];rcases q4 with⟨v,rfl,M4,gN4,gF4,st4,g4,le4,mx4,r4,u4,rfl,a4,wh4⟩|rfl
   ·have hf:Fn1 K A B B1 (.ls (env.map bW)) (Ce env inst) (m+1) (M.vis+1) (.fn 35 [.ptr A.a 0 0] []) (Rl (Ce env inst)):=by
     intro M' gN' gF' h' x' t' s' g' c' mem' hv' hx';obtain⟨o,h2,e,q⟩:=ih (M.vis+1) o_ (m+1) o_ M' gN' gF' h' x' t' s' g' c' mem' hv' hx';refine⟨o,h2,?_,q⟩;rw[akg hK (ae (aG _ _ _) (aC _)) (ae (bD _ _ _ _) (ae (aG _ _ _) (aC _)))];exact e
    have v4:=mx4.vis;obtain⟨o5,H5,e5,hm5,q5⟩:=c1073 hK km (m:=m+1) o_ hf (fun h=>by rw[iR];simp[AV.norm,AV.ald]) st4 g4 mx4.ct mx4.mem o_ a4;rcases q5 with⟨v,rfl,M5,gN5,gF5,st5,g5,le5,mx5,r5,u5,k5,rfl,a5,p5⟩|rfl
    ·have rl:=rl_of wh4 p5;have mx05:=(mx3.trans mx4).trans mx5;have le05:=(le3.trans le4).trans le5;have hm05:=(hm1.trans hm4).trans hm5;have gA2:=st5.gA;have up1:=lU (kf:=AG.aO) (t:=1) AG.aO dI st5.gM x r5;have s3:=st5.putN (stg M5.n x r5);have gA3:=s3.gA;have up2:=lU (kf:=AG.aO) (t:=1) AG.aO dI s3.gM r5 r5;have s4:=s3.putN (stg (stg M5.n x r5) r5 r5);have up1:fK H5 1 (.map A.kM) (i_ x) (i_ r5)=_:=up1;have up2:fK (H5.set A.kM (.map (mpg AG.aO AG.aO (stg M5.n x r5)))) 1 (.map A.kM) (i_ r5) (i_ r5)=_:=up2;unfold mL at gA2 gA3;simp only[go_sem,simprocAttr,e4,e5,Nv,gA2,up1,Nw,gA3,up2,Ny];refine fR (.inr rfl) (by simp only[go_sem,simprocAttr,aaN]) ((hm05.set _ (.inr ra.2.2.2.2.2)).set _ (.inr ra.2.2.2.2.2)) ⟨_,gN5,gF5,s4,g5.same rfl rfl rfl,le05.trans (Le.same rfl rfl),⟨⟨mx05.ct.v0,mx05.ct.v1,mx05.ct.c0,mx05.ct.c1⟩,⟨fun e he=>mx05.mem.w e he,fun e he=>?_⟩,mx05.vis,mx05.con⟩,r5,_,rfl,a5,rl⟩;rcases stg_mem he with rfl|he
     ·exact⟨_,_,a5,a5,abV rl⟩
     ·rcases stg_mem he with rfl|he
      ·exact⟨t,_,le05.at hx,a5,rl⟩
      ·exact mx05.mem.n e he
    ·simp only[go_sem,simprocAttr,e4,e5];exact cB ((hm1.trans hm4).trans hm5)
   ·simp only[go_sem,simprocAttr,e4];exact cB (hm1.trans hm4)
  ·simp only[go_sem,simprocAttr,e1];exact cB hm1
end
theorem iW {α:Type}{p:α->Bool}{xs:List α}{i:Nat}{x:α}(e:xs[i]?=some x)(h:(xs.take i).any p=false)(hp:p x=false):(xs.take (i+1)).any p=false:=by
 rw[List.take_add_one,e,Option.toList_some,List.any_append,h];simp[hp]
theorem nD {α:Type}{p:α->Bool}{xs:List α}{i:Nat}{x:α}(e:xs[i]?=some x)(hp:p x=true):xs.any p=true:=List.any_eq_true.2 ⟨x,m_ e,hp⟩
theorem Zl (l:List LV)(h:AH):cE (.ls (l.map bV)) h=(.ls (l.map bV),h):=by
 rw[bG (show(AV.ls (l.map bV)).free=true by simp only[AV.free];exact bE tC l)];simp only[AV.norm,bw ph]
section
variable {K:aQ}
structure Pr (K:aQ)(m:Nat){α:Type}(fv:AV)(en:α->AV)(p:α->Bool)(xs:List α)(Pf:AH->Prop):Prop where
 up:∀ h h',Pf h->HK h h'->Pf h'
 run:∀ x∈xs,∀ h,Pf h->∃ h',cS K m fv [en x] .no h=some (.ret (.bool (p x)),.no,h')/\HK h h'
 can:∀ h,cE fv h=(fv,h)
def I239 (xs:List Int)(fv:AV)(p:Int->Bool)(h0:AH)(j:Nat)(fr:AF)(h:AH):Prop:=∃ tm i,i+j=xs.length/\fr=⟨tm,⟨[],.no,none,137⟩⟩/\HK h0 h/\nth tm 0=.ls (xs.map AG.aO)/\nth tm 1=fv/\nth tm 7=i_ (xs.length:Int)/\nth tm 8=i_ (i:Int)/\(xs.take i).any p=false
theorem c239 (hK:aZ K){m:Nat}{xs:List Int}{fv:AV}{p:Int->Bool}{Pf:AH->Prop}(pr:Pr K m fv AG.aO p xs Pf){h:AH}(hf:Pf h)(hl:xs.length<1000000):
  ∃ v h',cS K (m+1) (.fn 137 [] []) [.ls (xs.map AG.aO),fv] .no h=some (.ret v,.no,h')/\(∃ i:Int,v=i_ i/\decide (0<=i)=xs.any p)/\HK h h':=by
 refine bh hK cf239 (ae (dM xs h) (ae (pr.can h) (aC _))) ?_;simp only[A_];unfold b239;simp only[go_sem,simprocAttr,XI,L_];refine bB (I239 xs fv p h) xs.length o_ ⟨_,0,z_ _,rfl,HK.refl h,k_,k_,k_,k_,by simp⟩ ?_;rintro j fr H ⟨tm,i,hi,rfl,hk,t0,t1,t7,t8,hn⟩;unfold ZA;simp only[go_sem,simprocAttr,t7,t8,XK];refine aX (fun hlt=>?_) (fun hge=>?_)
 ·have hlt:i<xs.length:=o_;have hget:xs[i]?=some xs[i]:=a_ hlt;have ha:=fun h=>aK (f:=AG.aO) (sz:=1) (fun _=>rfl) hget .i64 h
  have ele:=cu xs[i];obtain⟨H',e,hk'⟩:=pr.run _ (List.getElem_mem hlt) H (pr.up _ _ hf hk);have hw:=aP i o_;simp only[AG.aO]at ele e;simp only[go_sem,simprocAttr,XL,XM,t0,t1,t8,ha,e];cases hp:p xs[i] with
  |true=>
   simp only[go_sem,simprocAttr];exact⟨rfl,rfl,.inr rfl,[i_ (i:Int)],by simp only[go_sem,simprocAttr,akS],i_ (i:Int),H',aS (by intro l e;cases e) (aG _ _ _),⟨_,rfl,by rw[nD hget hp];exact t_⟩,hk.trans hk'⟩
  |false=>
   simp only[go_sem,simprocAttr,t8,hw];exact⟨j-1,o_,_,i+1,o_,rfl,hk.trans hk',q_ t0,q_ t1,q_ t7,k_,iW hget hn hp⟩
 ·have hp:i=xs.length:=o_;subst hp;simp only[go_sem,simprocAttr,XJ];rw[List.take_length]at hn;exact⟨rfl,rfl,.inr rfl,[i_ (-1)],by simp only[go_sem,simprocAttr,akS],i_ (-1),H,aS (by intro l e;cases e) (aG _ _ _),⟨_,rfl,by rw[hn];rfl⟩,hk⟩
theorem c193 (hK:aZ K){m:Nat}{xs:List Int}{fv:AV}{p:Int->Bool}{Pf:AH->Prop}(pr:Pr K m fv AG.aO p xs Pf){h:AH}(hf:Pf h)(hl:xs.length<1000000):
  ∃ v h',cS K (m+2) (.fn 94 [] []) [.ls (xs.map AG.aO),fv] .no h=some (.ret v,.no,h')/\v=.bool (xs.any p)/\HK h h':=by
 refine bh hK cf193 (ae (dM xs h) (ae (pr.can h) (aC _))) ?_;simp only[A_];obtain⟨v,h',e,⟨i,rfl,hi⟩,hk⟩:=c239 hK pr hf hl;unfold b193;simp only[go_sem,simprocAttr,XX,e];rw[hi];exact⟨rfl,rfl,.inr rfl,[.bool (xs.any p)],by simp only[go_sem,simprocAttr,r193],.bool (xs.any p),h',aS (by intro l e;cases e) (aW _ _),rfl,hk⟩
def I159 (xs:List LV)(fv:AV)(p:LV->Bool)(h0:AH)(j:Nat)(fr:AF)(h:AH):Prop:=∃ tm i,i+j=xs.length/\fr=⟨tm,⟨[],.no,none,162⟩⟩/\HK h0 h/\nth tm 0=.ls (xs.map bV)/\nth tm 1=fv/\nth tm 7=i_ (xs.length:Int)/\nth tm 8=i_ (i:Int)/\(xs.take i).any p=false
theorem c159 (hK:aZ K){m:Nat}{xs:List LV}{fv:AV}{p:LV->Bool}{Pf:AH->Prop}(pr:Pr K m fv bV p xs Pf){h:AH}(hf:Pf h)(hl:xs.length<1000000):
  ∃ v h',cS K (m+1) (.fn 162 [] []) [.ls (xs.map bV),fv] .no h=some (.ret v,.no,h')/\(∃ i:Int,v=i_ i/\decide (0<=i)=xs.any p)/\HK h h':=by
 refine bh hK cf159 (ae (Zl xs h) (ae (pr.can h) (aC _))) ?_;simp only[A_];unfold b159;simp only[go_sem,simprocAttr,Yu,L_];refine bB (I159 xs fv p h) xs.length o_ ⟨_,0,z_ _,rfl,HK.refl h,k_,k_,k_,k_,by simp⟩ ?_;rintro j fr H ⟨tm,i,hi,rfl,hk,t0,t1,t7,t8,hn⟩;unfold ZG;simp only[go_sem,simprocAttr,t7,t8,Yw];refine aX (fun hlt=>?_) (fun hge=>?_)
 ·have hlt:i<xs.length:=o_;have hget:xs[i]?=some xs[i]:=a_ hlt;have ha:=fun h=>aK (f:=bV) (sz:=2) cV hget .i64 h
  have ele:=gi xs[i];obtain⟨H',e,hk'⟩:=pr.run _ (List.getElem_mem hlt) H (pr.up _ _ hf hk);have hw:=aP i o_;simp only[go_sem,simprocAttr,Yx,Yy,t0,t1,t8,ha,ele,e];cases hp:p xs[i] with
  |true=>
   simp only[go_sem,simprocAttr];exact⟨rfl,rfl,.inr rfl,[i_ (i:Int)],by simp only[go_sem,simprocAttr,akU],i_ (i:Int),H',aS (by intro l e;cases e) (aG _ _ _),⟨_,rfl,by rw[nD hget hp];exact t_⟩,hk.trans hk'⟩
  |false=>
   simp only[go_sem,simprocAttr,t8,hw];exact⟨j-1,o_,_,i+1,o_,rfl,hk.trans hk',q_ t0,q_ t1,q_ t7,k_,iW hget hn hp⟩
 ·have hp:i=xs.length:=o_;subst hp;simp only[go_sem,simprocAttr,Yv];rw[List.take_length]at hn;exact⟨rfl,rfl,.inr rfl,[i_ (-1)],by simp only[go_sem,simprocAttr,akU],i_ (-1),H,aS (by intro l e;cases e) (aG _ _ _),⟨_,rfl,by rw[hn];rfl⟩,hk⟩
theorem c109 (hK:aZ K){m:Nat}{xs:List LV}{fv:AV}{p:LV->Bool}{Pf:AH->Prop}(pr:Pr K m fv bV p xs Pf){h:AH}(hf:Pf h)(hl:xs.length<1000000):
  ∃ v h',cS K (m+2) (.fn 121 [] []) [.ls (xs.map bV),fv] .no h=some (.ret v,.no,h')/\v=.bool (xs.any p)/\HK h h':=by
 refine bh hK cf109 (ae (Zl xs h) (ae (pr.can h) (aC _))) ?_;simp only[A_];obtain⟨v,h',e,⟨i,rfl,hi⟩,hk⟩:=c159 hK pr hf hl;unfold b109;simp only[go_sem,simprocAttr,YJ,e];rw[hi];exact⟨rfl,rfl,.inr rfl,[.bool (xs.any p)],by simp only[go_sem,simprocAttr,r109],.bool (xs.any p),h',aS (by intro l e;cases e) (aW _ _),rfl,hk⟩
def I68 (xs:List LL)(fv:AV)(p:LL->Bool)(h0:AH)(j:Nat)(fr:AF)(h:AH):Prop:=∃ tm i,i+j=xs.length/\fr=⟨tm,⟨[],.no,none,124⟩⟩/\HK h0 h/\nth tm 0=.ls (xs.map ba)/\nth tm 1=fv/\nth tm 7=i_ (xs.length:Int)/\nth tm 8=i_ (i:Int)/\(xs.take i).any p=false
theorem c68 (hK:aZ K){m:Nat}{xs:List LL}{fv:AV}{p:LL->Bool}{Pf:AH->Prop}(pr:Pr K m fv ba p xs Pf){h:AH}(hf:Pf h)(hl:xs.length<1000000):
  ∃ v h',cS K (m+1) (.fn 124 [] []) [.ls (xs.map ba),fv] .no h=some (.ret v,.no,h')/\(∃ i:Int,v=i_ i/\decide (0<=i)=xs.any p)/\HK h h':=by
 refine bh hK cf68 (ae (pZ xs h) (ae (pr.can h) (aC _))) ?_;simp only[A_];unfold b68;simp only[go_sem,simprocAttr,aer,L_];refine bB (I68 xs fv p h) xs.length o_ ⟨_,0,z_ _,rfl,HK.refl h,k_,k_,k_,k_,by simp⟩ ?_;rintro j fr H ⟨tm,i,hi,rfl,hk,t0,t1,t7,t8,hn⟩;unfold afV;simp only[go_sem,simprocAttr,t7,t8,aet];refine aX (fun hlt=>?_) (fun hge=>?_)
 ·have hlt:i<xs.length:=o_;have hget:xs[i]?=some xs[i]:=a_ hlt;have ha:=fun h=>aK (f:=ba) (sz:=2) eC hget .i64 h
  have ele:=jb xs[i];obtain⟨H',e,hk'⟩:=pr.run _ (List.getElem_mem hlt) H (pr.up _ _ hf hk);have hw:=aP i o_;simp only[go_sem,simprocAttr,aeu,aev,t0,t1,t8,ha,ele,e];cases hp:p xs[i] with
  |true=>
   simp only[go_sem,simprocAttr];exact⟨rfl,rfl,.inr rfl,[i_ (i:Int)],by simp only[go_sem,simprocAttr,r68],i_ (i:Int),H',aS (by intro l e;cases e) (aG _ _ _),⟨_,rfl,by rw[nD hget hp];exact t_⟩,hk.trans hk'⟩
  |false=>
   simp only[go_sem,simprocAttr,t8,hw];exact⟨j-1,o_,_,i+1,o_,rfl,hk.trans hk',q_ t0,q_ t1,q_ t7,k_,iW hget hn hp⟩
 ·have hp:i=xs.length:=o_;subst hp;simp only[go_sem,simprocAttr,aes];rw[List.take_length]at hn;exact⟨rfl,rfl,.inr rfl,[i_ (-1)],by simp only[go_sem,simprocAttr,r68],i_ (-1),H,aS (by intro l e;cases e) (aG _ _ _),⟨_,rfl,by rw[hn];rfl⟩,hk⟩
theorem c25 (hK:aZ K){m:Nat}{xs:List LL}{fv:AV}{p:LL->Bool}{Pf:AH->Prop}(pr:Pr K m fv ba p xs Pf){h:AH}(hf:Pf h)(hl:xs.length<1000000):
  ∃ v h',cS K (m+2) (.fn 82 [] []) [.ls (xs.map ba),fv] .no h=some (.ret v,.no,h')/\v=.bool (xs.any p)/\HK h h':=by
 refine bh hK cf25 (ae (pZ xs h) (ae (pr.can h) (aC _))) ?_;simp only[A_];obtain⟨v,h',e,⟨i,rfl,hi⟩,hk⟩:=c68 hK pr hf hl;unfold b25;simp only[go_sem,simprocAttr,aeQ,e];rw[hi];exact⟨rfl,rfl,.inr rfl,[.bool (xs.any p)],by simp only[go_sem,simprocAttr,r25],.bool (xs.any p),h',aS (by intro l e;cases e) (aW _ _),rfl,hk⟩
end
def Dm (l:LL):Bool:=l.vars.any fun x=>decide (l.c<=x.plus)
theorem VL.cov0 {l:LL}(h:VL l)(hc:0<l.c):Dm l=false:=by
 unfold Dm;rw[List.any_eq_false];intro x hx;obtain⟨i,hi⟩:=List.getElem?_of_mem hx;have:=h.cov hc i x hi;simp;omega
theorem can_V (x:LV)(h:AH):cE (bV x) h=(bV x,h):=by rw[bG (tC x),ph]
section
variable {K:aQ}{h:AH}
theorem pB (l:LL)(h:AH):dB h 2 (ba l)=.val (.ptr h.z 0 0) (h.new (.box [i_ l.c,.ls (l.vars.map bV)])):=bN _ 2 rfl
theorem box_V (x:LV)(h:AH):dB h 2 (bV x)=.val (.ptr h.z 0 0) (h.new (.box [i_ x.idx,i_ x.plus])):=bN _ 2 rfl
theorem lp (l:LL):AV.agg [i_ l.c,.ls (l.vars.map bV)]=ba l:=rfl
theorem c238 (hK:aZ K)(m:Nat){k:Nat}{l:LL}(x:LV)(g:h.get k=some (.box [i_ l.c,.ls (l.vars.map bV)]))(hk:k<h.z):
  ∃ v h',cS K (m+1) (.fn 193 [] [.ptr k 0 0]) [bV x] .no h=some (.ret v,.no,h')/\v=.bool (decide (l.c<=x.plus))/\HK h h':=by
 refine bh hK cf238 (ae (can_V x h) (aC _)) ?_;have g1:=(aL (x:=.box [i_ x.idx,i_ x.plus]) (show k≠h.z by omega)).trans g;unfold b238;simp only[go_sem,simprocAttr,box_V,XN,g1];exact⟨rfl,rfl,.inr rfl,[_],by simp only[go_sem,simprocAttr,r238],_,_,aS (by intro l e;cases e) (aW _ _),rfl,HK.new _ _⟩
theorem c192 (hK:aZ K)(m:Nat)(l:LL)(hl:l.vars.length<1000000):
  ∃ v h',cS K (m+4) (.fn 161 [] []) [ba l] .no h=some (.ret v,.no,h')/\v=.bool (Dm l)/\HK h h':=by
 refine bh hK cf192 (ae (jz l h) (aC _)) ?_;obtain⟨H,hH⟩:∃ H:AH,H=h.new (.box [i_ l.c,.ls (l.vars.map bV)]):=⟨_,rfl⟩
 have k0:HK h H:=by rw[hH];exact HK.new _ _
 have n0:H.z=h.z+1:=by rw[hH,ala]
 have g0:H.get h.z=some (.box [i_ l.c,.ls (l.vars.map bV)]):=by rw[hH,aE]
 have pr:Pr K (m+1) (.fn 193 [] [.ptr h.z 0 0]) bV (fun x=>decide (l.c<=x.plus)) l.vars (fun H'=>H'.get h.z=some (.box [i_ l.c,.ls (l.vars.map bV)])/\h.z<H'.z):=
  ⟨fun a b ⟨q1,q2⟩ k=>⟨(k.kw _ q2).trans q1,by have:=k.z;omega⟩,fun x _ H' ⟨q1,q2⟩=>by obtain⟨v,h',e,rfl,hk⟩:=c238 hK m x q1 q2;exact⟨h',e,hk⟩,fun h=>by rw[iR];simp[AV.ald];rfl⟩
 obtain⟨v,H2,e,rfl,k2⟩:=c109 hK pr ⟨g0,o_⟩ hl;unfold b192;simp only[go_sem,simprocAttr,pB,XY];rw[<- hH];clear hH;simp only[go_sem,simprocAttr,e];exact⟨rfl,rfl,.inr rfl,[.bool (Dm l)],by simp only[go_sem,simprocAttr,r192];rfl,_,_,aS (by intro l e;cases e) (aW _ _),rfl,k0.trans k2⟩
def I135 (l:LL)(b:Nat)(h0:AH)(j:Nat)(fr:AF)(h:AH):Prop:=∃ tm p,p+j=l.vars.length/\fr=⟨tm,⟨[],.no,none,120⟩⟩/\HK h0 h/\b<h.z/\h.get b=some (.box [i_ l.c,.ls (l.vars.map bV)])/\
  nth tm 1=.ptr b 0 0/\nth tm 23=.ls (l.vars.map bV)/\nth tm 24=i_ (l.vars.length:Int)/\nth tm 25=i_ (p:Int)
theorem ak0 (hK:aZ K)(m:Nat){l:LL}(vl:VL l)(hl:l.vars.length<1000000):
  ∃ v h',cS K (m+5) (.fn 120 [] []) [ba l] .no h=some (.ret v,.no,h')/\v=.bool true/\HK h h':=by
 refine bh hK cf135 (ae (jz l h) (aC _)) ?_;obtain⟨H,hH⟩:∃ H:AH,H=h.new (.box [i_ l.c,.ls (l.vars.map bV)]):=⟨_,rfl⟩
 have k0:HK h H:=by rw[hH];exact HK.new _ _
 have n0:H.z=h.z+1:=by rw[hH,ala]
 have g0:H.get h.z=some (.box [i_ l.c,.ls (l.vars.map bV)]):=by rw[hH,aE]
 have c0:=vl.c0;have c1:=vl.c1;have d1:decide (l.c<0)=false:=d_;have d2:decide (l.c > 100)=false:=d_;have main:∀ (tm:Tm) (H1:AH),HK h H1->h.z<H1.z->H1.get h.z=some (.box [i_ l.c,.ls (l.vars.map bV)])->nth tm 1=.ptr h.z 0 0->
   R (cS K (m+4)) 1000000000000 [.code HZ] (IQ akV fun v h2=>∃ v' h3,cG v h2=(v',h3)/\v'=.bool true/\HK h h3) .normal ⟨tm,⟨[],.no,none,120⟩⟩ H1:=by
  intro tm H1 hk1 hn1 hg1 t1;simp only[go_sem,HZ,t1,hg1,L_];refine bB (I135 l h.z h) l.vars.length o_ ⟨_,0,z_ _,rfl,hk1,hn1,hg1,by simp only[go_sem,Nat.reduceEqDiff,t1],by simp only[go_sem,Nat.reduceEqDiff],by simp only[go_sem,Nat.reduceEqDiff],by simp only[go_sem];rfl⟩ ?_;rintro j fr H2 ⟨tm,p,hp,rfl,hk2,hn2,hg2,t1,t23,t24,t25⟩;unfold ZH;simp only[go_sem,t24,t25,YB];refine aX (fun hlt=>?_) (fun hge=>?_)
  ·have hlt:p<l.vars.length:=o_;have hget:l.vars[p]?=some l.vars[p]:=a_ hlt;have ha:=fun h=>aK cV hget .i64 h
   have ele:=gi l.vars[p];have hw:=aP p o_;obtain⟨r1,r2,r3,r4⟩:=vl.rng _ _ hget;have e1:decide (l.vars[p].idx < -65536)=false:=d_;have e2:decide (l.vars[p].idx > 7)=false:=d_;have e3:decide (l.vars[p].plus<0)=false:=d_;have e4:decide (l.vars[p].plus > 100)=false:=d_;obtain⟨H3,hH3⟩:∃ H3:AH,H3=(H2.new (.box [i_ 0,i_ 0])).set H2.z (.box [i_ l.vars[p].idx,i_ l.vars[p].plus]):=⟨_,rfl⟩
   have k3:HK H2 H3:=by rw[hH3];exact(HK.new _ _).set _ (e_ _)
   have g3:H3.get H2.z=some (.box [i_ l.vars[p].idx,i_ l.vars[p].plus]):=by rw[hH3,aH]
   have n3:H3.z=H2.z+1:=by rw[hH3,alb,ala]
   have g13:=(k3.kw _ hn2).trans hg2;have hv:bV l.vars[p]=.agg [i_ l.vars[p].idx,i_ l.vars[p].plus]:=rfl;simp only[go_sem,Nat.reduceEqDiff,Nat.reduceAdd,YC,t23,t25,ha,hv];rw[<- hH3];clear hH3;cases p with
   |zero=>
    have hd:decide (((0:Nat):Int) > 0)=false:=by simp
    simp only[go_sem,Nat.reduceEqDiff,Int.reduceNeg,Ia,g3,e1,e2,e3,e4,hd,hw,t25];exact⟨j-1,o_,_,1,o_,rfl,hk2.trans k3,o_,g13,by simp only[go_sem,Nat.reduceEqDiff,t1],by simp only[go_sem,Nat.reduceEqDiff,t23],by simp only[go_sem,Nat.reduceEqDiff,t24],by simp only[go_sem]⟩
   |succ p=>
    have hgp:l.vars[p]?=some l.vars[p]:=a_ o_;have hap:=fun h=>aK cV hgp .i64 h
    have hvp:bV l.vars[p]=.agg [i_ l.vars[p].idx,i_ l.vars[p].plus]:=rfl;have hw3:IntKind.wrap .i64 (((p+1:Nat):Int)-1)=(p:Int):=by rw[bI _ o_ o_];omega
    have hd:decide (((p+1:Nat):Int) > 0)=true:=t_;have ho:=vl.ord p _ _ hgp hget;have e5:decide (l.vars[p].idx≥l.vars[p+1].idx)=false:=d_;simp only[go_sem,Nat.reduceEqDiff,Int.reduceNeg,Ia,g3,g13,e1,e2,e3,e4,e5,hd,hw,hw3,hap,hvp,t1,t25];exact⟨j-1,o_,_,p+1+1,o_,rfl,hk2.trans k3,o_,g13,by simp only[go_sem,Nat.reduceEqDiff,t1],by simp only[go_sem,Nat.reduceEqDiff,t23],by simp only[go_sem,Nat.reduceEqDiff,t24],by simp only[go_sem]⟩
  ·simp only[go_sem,YA];exact⟨rfl,rfl,.inr rfl,[_],by simp only[go_sem,akV],_,_,aS (by intro l e;cases e) (aW _ _),rfl,hk2⟩
 unfold b135;simp only[go_sem,Nat.reduceEqDiff,pB,Yz];rw[<- hH];clear hH;by_cases hc:0<l.c
 ·have d3:decide (l.c > 0)=true:=T_ hc;obtain⟨v,H1,e1,rfl,k1⟩:=c192 (h:=H) hK m l hl;rw[vl.cov0 hc]at e1;have nx:=k1.z;simp only[go_sem,Nat.reduceEqDiff,Nat.reduceAdd,g0,d1,d2,d3,lp,e1];exact main _ H1 (k0.trans k1) o_ ((k1.kw _ o_).trans g0) (by simp only[go_sem,Nat.reduceEqDiff])
 ·have d3:decide (l.c > 0)=false:=D_ hc;simp only[go_sem,Nat.reduceEqDiff,g0,d1,d2,d3];exact main _ H k0 o_ g0 (by simp only[go_sem,Nat.reduceEqDiff])
end
