/- SolverFinals: filling, by the reference: its loops (no condition). -/
import Derived.Test.YtnacljdablhbgaaGreatGe
namespace Go.Proofs.YtnacljdablhbgaaGreat
open Go.AG
section
variable {K:aG}{P:LL->Prop}{ms:List MV}{w M n:Nat}{k:List It}{Q:AEx->AF->AH->Prop}
def I101a (ms:List MV)(above:List Int)(w b10:Nat)(V11:AV)(args:List T)(hd:T)(F:T->Option Int->T×Int×Option Int)(c0:Option Int)(h0:AH)(j:Nat)(fr:AF)(h:AH):Prop:=∃tm p V out c',p+j=hd.K.length/\fr=⟨tm,⟨[],.no,none,101⟩⟩/\
 pQ ms above w (h0.z+1) b10 V11 tm/\nth tm 12=V/\nth tm 13=wt (p:Int)/\rE w b10 (au hd) args V11 h0 h/\Own (b10+1) 5 true h V (out.map enc)/\out.length=p/\Cn h w c'/\Sq F hd.K c0 out (hd.K.drop p) c'
theorem wH {base:Nat}{h:AH}{V:AV}{out:List AV}(o:Own base 5 true h V out):AV.beq V V=true/\V.cells=[V]/\V.lies=true:=by
 obtain⟨_,⟨rfl,_⟩|⟨k,g,rfl,_⟩⟩:=o
 ·exact⟨rfl,rfl,rfl⟩
 ·exact⟨jF _ _ _ _ _,rfl,rfl⟩
theorem Cn.x {h h':AH}{c:Option Int}(x:Cn h w c)(e:h'.get w=h.get w):Cn h' w c:=x.kw e
theorem Od (ih:acJ K P ms w M n)(hd:T)(above:List Int)(c0:Option Int)(V11:AV)(args:List T)(h0:AH)(b10:Nat)(hlen:hd.K.length<=60)
  (hks:∀(a:Nat) x,hd.K[a]?=some x->∃d:Int,size x<=60/\0<=d/\d+size x<=1000/\Ok P ms.length x d/\60*(9-above.length)+size x<=n)
  (hab:above.Nodup) (hab2:∀j∈above,0<=j/\j<(ms.length:Int))
  (hX:∀tm H V out c',pQ ms above w (h0.z+1) b10 V11 tm->nth tm 12=V->rE w b10 (au hd) args V11 h0 H->Own (b10+1) 5 true H V (out.map enc)->Cn H w c'->cj (fun x c=>ge ms n x above c) hd.K c0=(out,0,c')->R (cS K M) 60000 k Q (.exit 0) ⟨tm,⟨[],.no,none,101⟩⟩ H)
  (hR:∀tm H e c',nth tm 8=.ptr (h0.z+1) 0 0->nth tm 9=wt e->H.get (h0.z+1)=some (.box [wt 0,wt 0,.str (bs []),.nl,.nl])->HKx w h0 H->Cn H w c'->e≠0->cj (fun x c=>ge ms n x above c) hd.K c0=([],e,c')->R (cS K M) 60000 k Q .ret ⟨tm,⟨[],.no,none,101⟩⟩ H)
  (tm:Tm) (H:AH) (L:pQ ms above w (h0.z+1) b10 V11 tm) (t12:nth tm 12=.nl) (t13:nth tm 13=wt 0) (J:rE w b10 (au hd) args V11 h0 H) (hc:Cn H w c0) :
  R (cS K M) 60000 (.code (.loop AJ)::k) Q .normal ⟨tm,⟨[],.no,none,101⟩⟩ H:=by
 refine bD (I101a ms above w b10 V11 args hd (fun x c=>ge ms n x above c) c0 h0) hd.K.length (by omega) ⟨tm,0,.nl,[],c0,wac _,rfl,L,t12,t13,J,fD _ _ _ _,rfl,hc,Sq.start _ _⟩ ?_;clear t12 t13 L J hc H tm;rintro j fr H ⟨tm,p,V,out,c',hp,rfl,L,t12,t13,J,o,hol,hc,sq⟩;have t0:=L.t0;have t2:=L.t2;have t3:=L.t3;have t8:=L.t8;have t10:=L.t10;have g10:=J.g10;have nx:=J.nx;have lo:=J.lo;have wl:=J.wl;unfold au at g10;unfold AJ;simp only[go_sem,simprocAttr,t10,t13,g10];refine bj (fun hlt=>?_) (fun hge=>?_)
 ·have hlt:p<hd.K.length:=by omega
  have hget:hd.K[p]?=some hd.K[p]:=wO hlt;obtain⟨d,hs,hd0,hd1,hok,hn⟩:=hks p _ hget;have hdr:hd.K.drop p=hd.K[p]::hd.K.drop (p+1):=List.drop_eq_getElem_cons hlt;rw[hdr]at sq;have ha:=fun h=>aN aZ hget .i64 h
  revert hs hok hn hd1 sq ha;generalize hd.K[p]=x;intro sq hs hd1 hok hn ha;obtain⟨_,h2,e2,rfl,k2,c2⟩:=ih x d above c' H hs hd0 hd1 hok hab hab2 hn hc (by omega);have n2:=k2.z;obtain⟨r,hr⟩:∃r,r=ge ms n x above c':=⟨_,rfl⟩
  rw[<-hr]at e2 c2;have hst:=aQ (h:=h2.new (.box [wt 0,wt 0,.str (bs []),.nl,.nl])) (k:=h2.z) (aE _ _) r.1;obtain⟨H3,hH3⟩:∃H3:AH,H3=(h2.new (.box [wt 0,wt 0,.str (bs []),.nl,.nl])).set h2.z (.box (au r.1)):=⟨_,rfl⟩
  have k3:HK h2 H3:=by subst hH3;exact HK.new_set _ _ _
  have x3:H3.get h2.z=some (.box (au r.1)):=by subst hH3;exact aC _ _ _
  have n3:H3.z=h2.z+1:=by subst hH3;simp only[co,ci]
  rw[<-hH3]at hst;clear hH3;have J3:=J.up (k2.trans (k3.x w));have c3:=c2.kw (k3.kw w (by omega));have o3:Own (b10+1) 5 true H3 V (out.map enc):=bp o (by omega) (fun a q1 q2=>(k3.kw a (by omega)).trans (k2.kw a q2 (by omega)));have g8:=J3.g8;unfold au at x3;simp only[go_sem,simprocAttr,To,t0,t2,t3,t10,t13,g10,ha,e2,hst,Tp];by_cases he:r.2.1=0
  ·have he':decide (r.2.1=0)=true:=HE he;obtain⟨V',H4,e4,o4,n4,k4,_⟩:=cV (bytes:=80) (x:=enc r.1) (z:=[wt 0,wt 0,.str (bs []),.nl,.nl]) o3 J3.nx rfl (aZ _) (fu _) (gh _) (by rw[waa];omega) (by decide);rw[aA r.1]at e4;have hw:=aM p (by omega);simp only[go_sem,simprocAttr,he',t12,t13,x3,e4,hw];refine⟨j-1,by omega,_,p+1,V',out++[r.1],r.2.2,by omega,rfl,⟨by simp only[go_sem,simprocAttr,t0],by simp only[go_sem,simprocAttr,t2],by simp only[go_sem,simprocAttr,t3],by simp only[go_sem,simprocAttr,t8],by simp only[go_sem,simprocAttr,t10],by simp only[go_sem,simprocAttr,L.t11]⟩,by simp only[go_sem,simprocAttr],by simp only[go_sem,simprocAttr],J3.low n4 k4,by rw[List.map_append];exact o4,by simp[hol],c3.kw (k4 w (by omega)),?_⟩;have:=sq.step (by rw[<-hr];exact he);rw[<-hr]at this;exact this
  ·have he':decide (r.2.1=0)=false:=HD he;simp only[go_sem,simprocAttr,he',t8,g8];refine hR _ _ r.2.1 r.2.2 (by simp only[go_sem,simprocAttr,t8]) (by simp only[go_sem,simprocAttr]) (aC _ _ _) (J3.kw.set _ (.inl (by omega))) (c3.kw (an (by omega))) he ?_;have:=sq.err (by rw[<-hr];exact he);rw[<-hr]at this;exact this
 ·have:p=hd.K.length:=by omega
  subst this;rw[List.drop_length]at sq;simp only[go_sem,simprocAttr];exact hX _ H V out c' ⟨by simp only[go_sem,simprocAttr,L.t0],by simp only[go_sem,simprocAttr,L.t2],by simp only[go_sem,simprocAttr,L.t3],by simp only[go_sem,simprocAttr,L.t8],by simp only[go_sem,simprocAttr,L.t10],by simp only[go_sem,simprocAttr,L.t11]⟩ (by simp only[go_sem,simprocAttr,t12]) J o hc sq.done
def I101b (ms:List MV)(above:List Int)(w b10:Nat)(V11:AV)(args:List T)(hd:T)(F:T->Option Int->T×Int×Option Int)(c0:Option Int)(h0:AH)(j:Nat)(fr:AF)(h:AH):Prop:=∃tm p cells out c',p+j=args.length/\fr=⟨tm,⟨[],.no,none,101⟩⟩/\
 pQ ms above w (h0.z+1) b10 V11 tm/\nth tm 16=wt (p:Int)/\rE w b10 cells args V11 h0 h/\Bx (b10+1) h cells (gB hd out)/\Cn h w c'/\Sq F args c0 out (args.drop p) c'
theorem Oc (hK:bW K)(ih:acJ K P ms w (M+1) n)(hd:T)(above:List Int)(c0:Option Int)(V11:AV)(args:List T)(h0:AH)(b10:Nat)(cells:List AV)(hlen:args.length<=60)
  (hks:∀(a:Nat) x,args[a]?=some x->∃d:Int,size x<=60/\0<=d/\d+size x<=1000/\Ok P ms.length x d/\60*(9-above.length)+size x<=n)
  (hab:above.Nodup) (hab2:∀j∈above,0<=j/\j<(ms.length:Int))
  (hX:∀tm H cells out c',pQ ms above w (h0.z+1) b10 V11 tm->rE w b10 cells args V11 h0 H->Bx (b10+1) H cells (gB hd out)->Cn H w c'->cj (fun x c=>ge ms n x above c) args c0=(out,0,c')->R (cS K (M+1)) 60000 k Q (.exit 2) ⟨tm,⟨[],.no,none,101⟩⟩ H)
  (hR:∀tm H e c',nth tm 8=.ptr (h0.z+1) 0 0->nth tm 9=wt e->H.get (h0.z+1)=some (.box [wt 0,wt 0,.str (bs []),.nl,.nl])->HKx w h0 H->Cn H w c'->e≠0->cj (fun x c=>ge ms n x above c) args c0=([],e,c')->R (cS K (M+1)) 60000 k Q .ret ⟨tm,⟨[],.no,none,101⟩⟩ H)
  (tm:Tm) (H:AH) (L:pQ ms above w (h0.z+1) b10 V11 tm) (t16:nth tm 16=wt 0) (J:rE w b10 cells args V11 h0 H) (bx:Bx (b10+1) H cells hd) (hc:Cn H w c0) :
  R (cS K (M+1)) 60000 (.code (.loop AI)::k) Q .normal ⟨tm,⟨[],.no,none,101⟩⟩ H:=by
 refine bD (I101b ms above w b10 V11 args hd (fun x c=>ge ms n x above c) c0 h0) args.length (by omega) ⟨tm,0,cells,[],c0,wac _,rfl,L,t16,J,bx,hc,Sq.start _ _⟩ ?_;clear t16 L J hc bx H tm cells;rintro j fr H ⟨tm,p,cells,out,c',hp,rfl,L,t16,J,bx,hc,sq⟩;have t0:=L.t0;have t2:=L.t2;have t3:=L.t3;have t8:=L.t8;have t10:=L.t10;have t11:=L.t11;have nx:=J.nx;have lo:=J.lo;have wl:=J.wl;have hl11:=J.r11.len;unfold AI;simp only[go_sem,simprocAttr,t11,t16,hl11];refine bj (fun hlt=>?_) (fun hge=>?_)
 ·have hlt:p<args.length:=by omega
  have hget:args[p]?=some args[p]:=wO hlt;obtain⟨d,hs,hd0,hd1,hok,hn⟩:=hks p _ hget;have hdr:args.drop p=args[p]::args.drop (p+1):=List.drop_eq_getElem_cons hlt;rw[hdr]at sq;obtain⟨pp,ha,hld⟩:=J.r11.at hget;revert hs hok hn hd1 sq hld;generalize args[p]=x;intro sq hs hd1 hok hn hld;obtain⟨_,h2,e2,rfl,k2,c2⟩:=ih x d above c' H hs hd0 hd1 hok hab hab2 hn hc (by omega);have n2:=k2.z;obtain⟨r,hr⟩:∃r,r=ge ms n x above c':=⟨_,rfl⟩
  rw[<-hr]at e2 c2;have hst:=aQ (h:=h2.new (.box [wt 0,wt 0,.str (bs []),.nl,.nl])) (k:=h2.z) (aE _ _) r.1;obtain⟨H3,hH3⟩:∃H3:AH,H3=(h2.new (.box [wt 0,wt 0,.str (bs []),.nl,.nl])).set h2.z (.box (au r.1)):=⟨_,rfl⟩
  have k3:HK h2 H3:=by subst hH3;exact HK.new_set _ _ _
  have x3:H3.get h2.z=some (.box (au r.1)):=by subst hH3;exact aC _ _ _
  have n3:H3.z=h2.z+1:=by subst hH3;simp only[co,ci]
  rw[<-hH3]at hst;clear hH3;have J3:=J.up (k2.trans (k3.x w));have c3:=c2.kw (k3.kw w (by omega));have bx3:Bx (b10+1) H3 cells (gB hd out):=bx.kw (by omega) (fun a q1 q2=>(k3.kw a (by omega)).trans (k2.kw a q2 (by omega)));have g8:=J3.g8;unfold au at x3;simp only[go_sem,simprocAttr,Tl,t0,t2,t3,t11,t16,ha,hld,e2,hst,Tn];by_cases he:r.2.1=0
  ·have he':decide (r.2.1=0)=true:=HE he;have hw:=aM p (by omega);obtain⟨a1,a2,a3,a4,a5,rfl⟩:=bx3.five;have g10:=J3.g10;obtain⟨H4,ec,n4,k4⟩:=bx3.can;have e74:cS K (M+1) (.fn 74 [] []) [.agg [a1,a2,a3,a4,a5],.clip [enc r.1]] .no H3=cS K (M+1) (.fn 74 [] []) [enc (gB hd out),.ls (([r.1]:List T).map enc)] .no H4:=
    vZ (ae ec (ae (Ly _ _) (aB _))) (ae (aP _ _) (ae (iL _ _) (aB _)))
   obtain⟨_,H5,e5,rfl,k5⟩:=c74 hK M (gB hd out) [r.1] H4 (by simp);rw[e5,aA r.1]at e74;have n5:=k5.z;have J5:=(J3.low (by omega) k4).up (k5.x w);have hs5:=aQ J5.g10 (gB (gB hd out) [r.1]);simp only[go_sem,simprocAttr,he',t10,g10,x3,e74,hs5,t16,hw];refine⟨j-1,by omega,_,p+1,_,out++[r.1],r.2.2,by omega,rfl,⟨by simp only[go_sem,simprocAttr,t0],by simp only[go_sem,simprocAttr,t2],by simp only[go_sem,simprocAttr,t3],by simp only[go_sem,simprocAttr,t8],by simp only[go_sem,simprocAttr,t10],by simp only[go_sem,simprocAttr,t11]⟩,by simp only[go_sem,simprocAttr],J5.put _,?_,?_,?_⟩
   ·rw[tr];exact Bx.of _ _ _
   ·exact c3.kw (by rw[an (by omega),k5.kw w (by omega),k4 w (by omega)])
   ·have:=sq.step (by rw[<-hr];exact he);rw[<-hr]at this;exact this
  ·have he':decide (r.2.1=0)=false:=HD he;simp only[go_sem,simprocAttr,he',t8,g8];refine hR _ _ r.2.1 r.2.2 (by simp only[go_sem,simprocAttr,t8]) (by simp only[go_sem,simprocAttr]) (aC _ _ _) (J3.kw.set _ (.inl (by omega))) (c3.kw (an (by omega))) he ?_;have:=sq.err (by rw[<-hr];exact he);rw[<-hr]at this;exact this
 ·have:p=args.length:=by omega
  subst this;rw[List.drop_length]at sq;simp only[go_sem,simprocAttr];exact hX _ H cells out c' ⟨by simp only[go_sem,simprocAttr,L.t0],by simp only[go_sem,simprocAttr,L.t2],by simp only[go_sem,simprocAttr,L.t3],by simp only[go_sem,simprocAttr,L.t8],by simp only[go_sem,simprocAttr,L.t10],by simp only[go_sem,simprocAttr,L.t11]⟩ J bx hc sq.done
def I101c (ms:List MV)(above:List Int)(w b10:Nat)(V11:AV)(idx:Int)(h0 H0:AH)(j:Nat)(fr:AF)(h:AH):Prop:=∃tm p,p+j=above.length/\fr=⟨tm,⟨[],.no,none,101⟩⟩/\
 pQ ms above w (h0.z+1) b10 V11 tm/\nth tm 12=.nl/\nth tm 19=wt (p:Int)/\h=H0/\idx ∉ above.take p
theorem Ob (hd:T)(above:List Int)(V11:AV)(args:List T)(h0:AH)(b10:Nat)(hlen:above.length<=60)(tm:Tm)(H:AH)(L:pQ ms above w (h0.z+1) b10 V11 tm)(t12:nth tm 12=.nl)(t19:nth tm 19=wt 0)(J:rE w b10 (au hd) args V11 h0 H)
  (hX:∀tm,pQ ms above w (h0.z+1) b10 V11 tm->nth tm 12=.nl->hd.i ∉ above->R (cS K M) 60000 k Q (.exit 4) ⟨tm,⟨[],.no,none,101⟩⟩ H)
  (hR:∀tm H',nth tm 8=.ptr (h0.z+1) 0 0->nth tm 9=wt 22->H'.get (h0.z+1)=some (.box [wt 0,wt 0,.str (bs []),.nl,.nl])->HKx w h0 H'->H'.get w=H.get w->hd.i∈above->R (cS K M) 60000 k Q .ret ⟨tm,⟨[],.no,none,101⟩⟩ H') :
  R (cS K M) 60000 (.code (.loop Ho)::k) Q .normal ⟨tm,⟨[],.no,none,101⟩⟩ H:=by
 refine bD (I101c ms above w b10 V11 hd.i h0 H) above.length (by omega) ⟨tm,0,wac _,rfl,L,t12,t19,rfl,by simp⟩ ?_;clear t19 t12 L tm;rintro j fr H' ⟨tm,p,hp,rfl,L,t12,t19,rfl,hni⟩;have t2:=L.t2;have t8:=L.t8;have t10:=L.t10;have g10:=J.g10;have g8:=J.g8;have lo:=J.lo;have wl:=J.wl;unfold au at g10;unfold Ho;simp only[go_sem,simprocAttr,t2,t19];refine bj (fun hlt=>?_) (fun hge=>?_)
 ·have hlt:p<above.length:=by omega
  have hget:above[p]?=some above[p]:=wO hlt;have ha:=fun h=>aN uD hget .i64 h
  have hw:=aM p (by omega);simp only[go_sem,simprocAttr,Tk,t2,t10,t19,ha,g10];refine bj (fun heq=>?_) (fun hne=>?_)
  ·simp only[go_sem,simprocAttr,t8,g8];exact hR _ _ (by simp only[go_sem,simprocAttr,t8]) (by simp only[go_sem,simprocAttr]) (aC _ _ _) (J.kw.set _ (.inl (by omega))) (an (by omega)) (by rw[<-heq];exact List.getElem_mem hlt)
  ·simp only[go_sem,simprocAttr,t19,hw];refine⟨j-1,by omega,_,p+1,by omega,rfl,⟨by simp only[go_sem,simprocAttr,L.t0],by simp only[go_sem,simprocAttr,t2],by simp only[go_sem,simprocAttr,L.t3],by simp only[go_sem,simprocAttr,t8],by simp only[go_sem,simprocAttr,t10],by simp only[go_sem,simprocAttr,L.t11]⟩,by simp only[go_sem,simprocAttr,t12],by simp only[go_sem,simprocAttr],rfl,?_⟩;rw[List.take_add_one,hget];intro hm;rcases List.mem_append.1 hm with q|q
   ·exact hni q
   ·simp at q;exact hne q.symm
 ·have:p=above.length:=by omega
  subst this;rw[List.take_length]at hni;simp only[go_sem,simprocAttr];exact hX _ ⟨by simp only[go_sem,simprocAttr,L.t0],by simp only[go_sem,simprocAttr,L.t2],by simp only[go_sem,simprocAttr,L.t3],by simp only[go_sem,simprocAttr,L.t8],by simp only[go_sem,simprocAttr,L.t10],by simp only[go_sem,simprocAttr,L.t11]⟩ (by simp only[go_sem,simprocAttr,t12]) hni
end
theorem xW {sz:Nat}: ∀{out:List AV} (a:Nat),(∀y∈out,y.cells.length=sz)->(flat out).drop (a*sz)=flat (out.drop a)
 |out,0,_=>by simp
 |[],a+1,_=>by simp[mc]
 |y::l,a+1,h=>by
  rw[bO,Nat.succ_mul,Nat.add_comm,<-h y (by simp),<-List.drop_drop,List.drop_left' rfl,h y (by simp),List.drop_succ_cons];exact xW a (fun z hz=>h z (by simp[hz]))
theorem uF {sz:Nat}: ∀{out:List AV} (m:Nat),(∀x∈out,x.cells.length=sz/\x.isAgg=true)->m<=out.length->chunk true sz m (flat out)=some (out.take m)
 |_,0,_,_=>by rw[List.take_zero];rfl
 |[],m+1,_,hm=>by simp at hm
 |x::l,m+1,h,hm=>by
  obtain⟨h1,h2⟩:=h x (by simp);have ih:=uF (out:=l) m (fun y hy=>h y (by simp[hy])) (by simpa using hm);have eg:pN true sz 0 (x.cells++flat l)=some x:=by
   rw[tN _ _ _ (by rw[List.length_append];omega),List.drop_zero,<-h1,List.take_left' rfl];cases x<;>simp[AV.isAgg,AV.cells]at h2 ⊢
  rw[pw,bO,eg,aF,fM,<-h1,List.drop_left' rfl,h1,ih];rfl
def Ro (B:Nat)(h:AH)(V:AV)(l:List T):Prop:=(V=.nl/\l=[])∨∃(k g off:Nat) (all:List T) (fz:Nat),V=.row k g 5 off l.length/\h.get k=some (.row g 5 true (flat (all.map enc)) fz)/\all.drop off=l/\B<=k/\k<h.z
theorem Ro.of {B:Nat}{h:AH}{V:AV}{l:List T}(o:Own B 5 true h V (l.map enc)):Ro B h V l:=by
 obtain⟨_,⟨q1,q2⟩|⟨k,g,q1,q2,q3,q4⟩⟩:=o
 ·exact .inl ⟨q1,by simpa using q2⟩
 ·exact .inr ⟨k,g,0,l,0,by simpa using q1,q2,rfl,q4,q3⟩
theorem Ro.kw {B:Nat}{h h':AH}{V:AV}{l:List T}(r:Ro B h V l)(hn:h.z<=h'.z)(hg:∀k,B<=k->k<h.z->h'.get k=h.get k):Ro B h' V l:=by
 rcases r with⟨q1,q2⟩|⟨k,g,off,all,fz,q1,q2,q3,q4,q5⟩
 ·exact .inl ⟨q1,q2⟩
 ·exact .inr ⟨k,g,off,all,fz,q1,(hg k q4 q5).trans q2,q3,q4,by omega⟩
theorem Ro.len {B:Nat}{h:AH}{V:AV}{l:List T}(r:Ro B h V l)(H:AH):lenOf V H 1=some l.length:=by
 rcases r with⟨rfl,rfl⟩|⟨k,g,off,all,fz,rfl,_⟩<;>rfl
theorem GO {k g off fz m:Nat}{h:AH}{all:List T}(q2:h.get k=some (.row g 5 true (flat (all.map enc)) fz))(hm:m<=(all.drop off).length):
  eT (.row k g 5 off m) h=(.ls (((all.drop off).take m).map enc),h.set k (.row g 5 true (flat (all.map enc)) (max fz ((off+m)*5)))):=by
 have hc:chunk true 5 m ((flat (all.map enc)).drop (off*5))=some (((all.drop off).take m).map enc):=by
  rw[xW off (fun y hy=>(jA all y hy).1),<-List.map_drop,uF m (jA _) (by rw[waa];exact hm),List.map_take]
 have:nD (.row k g 5 off m) h=fS (.row k g 5 off m) h:=rfl;rw[eT,this,Cj q2 hc];show(AV.ls (AV.ip _),_)=_;rw[cu]
theorem Ro.can {B:Nat}{h:AH}{V:AV}{l:List T}(r:Ro B h V l):∃h',eT V h=(.ls (l.map enc),h')/\h'.z=h.z/\∀k,k<B->h'.get k=h.get k:=by
 rcases r with⟨rfl,rfl⟩|⟨k,g,off,all,fz,rfl,q2,rfl,q4,q5⟩
 ·exact⟨h,oC h,rfl,fun _ _=>rfl⟩
 ·refine⟨_,(GO q2 (Fv _)).trans (by rw[List.take_length]),co _ _ _,fun a ha=>an (by omega)⟩
theorem sZ {k g off n:Nat}(h:AH)(hn:1<=n):HG h 5 (.row k g 5 off n) (wt 1)=some (.row k g 5 off 1,h):=by
 show aq (some n) (fun n=>aq (aq (some 1) fun m=>cond (Nat.ble m n) (some m) none) fun hb=>some (AV.row k g 5 (off+0) (hb-0),h))=_;rw[aF,aF,gj hn,cond_true,aF];rfl
theorem ud {k g off n:Nat}(h:AH)(tm:Tm)(hn:1<=n):ix h 5 (.row k g 5 off n) tm (some (.c (wt 1))) none none=some (.row k g 5 (off+1) (n-1),h):=by
 show aq (some n) (fun n=>aq (some n) fun hb=>aq (aq (some 1) fun m=>cond (Nat.ble m hb) (some m) none) fun l=>some (AV.row k g 5 (off+l) (hb-l),h))=_;rw[aF,aF,aF,gj hn,cond_true,aF]
structure tS (w b10 b21:Nat)(cells:List AV)(args:List T)(V11:AV)(v:T)(h0 h:AH):Prop where
 J:rE w b10 cells args V11 h0 h
 g21:h.get b21=some (.box (au v))
 nx:b21+1<=h.z
 lo:b10+1<=b21
section
variable {w b10 b21:Nat}{cells:List AV}{args:List T}{V11:AV}{v:T}{h0 h h':AH}
theorem tS.up (J:tS w b10 b21 cells args V11 v h0 h)(k:HKx w h h'):tS w b10 b21 cells args V11 v h0 h':=by
 have:=J.nx;have:=J.lo;have:=J.J.wl;have:=J.J.lo;exact⟨J.J.up k,(k.kw _ (by omega) (by omega)).trans J.g21,Nat.le_trans J.nx k.z,J.lo⟩
theorem tS.low (J:tS w b10 b21 cells args V11 v h0 h)(hn:h.z<=h'.z)(hk:∀k,k<b21+1->h'.get k=h.get k):tS w b10 b21 cells args V11 v h0 h':=by
 have:=J.nx;have:=J.lo;exact⟨J.J.low hn (fun k q=>hk k (by omega)),(hk _ (by omega)).trans J.g21,Nat.le_trans J.nx hn,J.lo⟩
theorem tS.put (J:tS w b10 b21 cells args V11 v h0 h)(v':T):tS w b10 b21 cells args V11 v' h0 (h.set b21 (.box (au v'))):=by
 have:=J.nx;have:=J.lo;exact⟨J.J.low (by rw[co];exact Fv _) (fun k q=>an (by omega)),aC _ _ _,by rw[co];exact J.nx,J.lo⟩
end
section
variable {K:aG}{P:LL->Prop}{ms:List MV}{w M n:Nat}{k:List It}{Q:AEx->AF->AH->Prop}
def I101d (ms:List MV)(above:List Int)(w b10 b21:Nat)(V11:AV)(args:List T)(cells:List AV)(v:T)(F:T->Option Int->T×Int×Option Int)(c0:Option Int)(h0:AH)(j:Nat)(fr:AF)(h:AH):Prop:=∃tm p V out c',p+j=args.length/\fr=⟨tm,⟨[],.no,none,101⟩⟩/\
 pQ ms above w (h0.z+1) b10 V11 tm/\nth tm 12=V/\nth tm 21=.ptr b21 0 0/\nth tm 23=wt (p:Int)/\tS w b10 b21 cells args V11 v h0 h/\Own (b21+1) 5 true h V (out.map enc)/\out.length=p/\Cn h w c'/\Sq F args c0 out (args.drop p) c'
theorem Oa (ih:acJ K P ms w M n)(above:List Int)(c0:Option Int)(V11:AV)(args:List T)(h0:AH)(b10 b21:Nat)(cells:List AV)(v:T)(hlen:args.length<=60)
  (hks:∀(a:Nat) x,args[a]?=some x->∃d:Int,size x<=60/\0<=d/\d+size x<=1000/\Ok P ms.length x d/\60*(9-above.length)+size x<=n)
  (hab:above.Nodup) (hab2:∀j∈above,0<=j/\j<(ms.length:Int))
  (hX:∀tm H V out c',pQ ms above w (h0.z+1) b10 V11 tm->nth tm 12=V->nth tm 21=.ptr b21 0 0->tS w b10 b21 cells args V11 v h0 H->Own (b21+1) 5 true H V (out.map enc)->Cn H w c'->cj (fun x c=>ge ms n x above c) args c0=(out,0,c')->R (cS K M) 60000 k Q (.exit 6) ⟨tm,⟨[],.no,none,101⟩⟩ H)
  (hR:∀tm H e c',nth tm 8=.ptr (h0.z+1) 0 0->nth tm 9=wt e->H.get (h0.z+1)=some (.box [wt 0,wt 0,.str (bs []),.nl,.nl])->HKx w h0 H->Cn H w c'->e≠0->cj (fun x c=>ge ms n x above c) args c0=([],e,c')->R (cS K M) 60000 k Q .ret ⟨tm,⟨[],.no,none,101⟩⟩ H)
  (tm:Tm) (H:AH) (L:pQ ms above w (h0.z+1) b10 V11 tm) (t12:nth tm 12=.nl) (t21:nth tm 21=.ptr b21 0 0) (t23:nth tm 23=wt 0) (J:tS w b10 b21 cells args V11 v h0 H) (hc:Cn H w c0) :
  R (cS K M) 60000 (.code (.loop zU)::k) Q .normal ⟨tm,⟨[],.no,none,101⟩⟩ H:=by
 refine bD (I101d ms above w b10 b21 V11 args cells v (fun x c=>ge ms n x above c) c0 h0) args.length (by omega) ⟨tm,0,.nl,[],c0,wac _,rfl,L,t12,t21,t23,J,fD _ _ _ _,rfl,hc,Sq.start _ _⟩ ?_;clear t12 t21 t23 L J hc H tm;rintro j fr H ⟨tm,p,V,out,c',hp,rfl,L,t12,t21,t23,J,o,hol,hc,sq⟩;have t0:=L.t0;have t2:=L.t2;have t3:=L.t3;have t8:=L.t8;have t10:=L.t10;have t11:=L.t11;have nx:=J.nx;have lo:=J.lo;have lo1:=J.J.lo;have wl:=J.J.wl;have hl11:=J.J.r11.len;unfold zU;simp only[go_sem,simprocAttr,t11,t23,hl11];refine bj (fun hlt=>?_) (fun hge=>?_)
 ·have hlt:p<args.length:=by omega
  have hget:args[p]?=some args[p]:=wO hlt;obtain⟨d,hs,hd0,hd1,hok,hn⟩:=hks p _ hget;have hdr:args.drop p=args[p]::args.drop (p+1):=List.drop_eq_getElem_cons hlt;rw[hdr]at sq;obtain⟨pp,ha,hld⟩:=J.J.r11.at hget;revert hs hok hn hd1 sq hld;generalize args[p]=x;intro sq hs hd1 hok hn hld;obtain⟨_,h2,e2,rfl,k2,c2⟩:=ih x d above c' H hs hd0 hd1 hok hab hab2 hn hc (by omega);have n2:=k2.z;obtain⟨r,hr⟩:∃r,r=ge ms n x above c':=⟨_,rfl⟩
  rw[<-hr]at e2 c2;have hst:=aQ (h:=h2.new (.box [wt 0,wt 0,.str (bs []),.nl,.nl])) (k:=h2.z) (aE _ _) r.1;obtain⟨H3,hH3⟩:∃H3:AH,H3=(h2.new (.box [wt 0,wt 0,.str (bs []),.nl,.nl])).set h2.z (.box (au r.1)):=⟨_,rfl⟩
  have k3:HK h2 H3:=by subst hH3;exact HK.new_set _ _ _
  have x3:H3.get h2.z=some (.box (au r.1)):=by subst hH3;exact aC _ _ _
  have n3:H3.z=h2.z+1:=by subst hH3;simp only[co,ci]
  rw[<-hH3]at hst;clear hH3;have J3:=J.up (k2.trans (k3.x w));have c3:=c2.kw (k3.kw w (by omega));have o3:Own (b21+1) 5 true H3 V (out.map enc):=bp o (by omega) (fun a q1 q2=>(k3.kw a (by omega)).trans (k2.kw a q2 (by omega)));have g8:=J3.J.g8;unfold au at x3;simp only[go_sem,simprocAttr,Ti,t0,t2,t3,t11,t23,ha,hld,e2,hst,Tj];by_cases he:r.2.1=0
  ·have he':decide (r.2.1=0)=true:=HE he;obtain⟨V',H4,e4,o4,n4,k4,_⟩:=cV (bytes:=80) (x:=enc r.1) (z:=[wt 0,wt 0,.str (bs []),.nl,.nl]) o3 J3.nx rfl (aZ _) (fu _) (gh _) (by rw[waa];omega) (by decide);rw[aA r.1]at e4;have hw:=aM p (by omega);simp only[go_sem,simprocAttr,he',t12,t23,x3,e4,hw];refine⟨j-1,by omega,_,p+1,V',out++[r.1],r.2.2,by omega,rfl,⟨by simp only[go_sem,simprocAttr,t0],by simp only[go_sem,simprocAttr,t2],by simp only[go_sem,simprocAttr,t3],by simp only[go_sem,simprocAttr,t8],by simp only[go_sem,simprocAttr,t10],by simp only[go_sem,simprocAttr,t11]⟩,by simp only[go_sem,simprocAttr],by simp only[go_sem,simprocAttr,t21],by simp only[go_sem,simprocAttr],J3.low n4 k4,by rw[List.map_append];exact o4,by simp[hol],c3.kw (k4 w (by omega)),?_⟩;have:=sq.step (by rw[<-hr];exact he);rw[<-hr]at this;exact this
  ·have he':decide (r.2.1=0)=false:=HD he;simp only[go_sem,simprocAttr,he',t8,g8];refine hR _ _ r.2.1 r.2.2 (by simp only[go_sem,simprocAttr,t8]) (by simp only[go_sem,simprocAttr]) (aC _ _ _) (J3.J.kw.set _ (.inl (by omega))) (c3.kw (an (by omega))) he ?_;have:=sq.err (by rw[<-hr];exact he);rw[<-hr]at this;exact this
 ·have:p=args.length:=by omega
  subst this;rw[List.drop_length]at sq;simp only[go_sem,simprocAttr];exact hX _ H V out c' ⟨by simp only[go_sem,simprocAttr,L.t0],by simp only[go_sem,simprocAttr,L.t2],by simp only[go_sem,simprocAttr,L.t3],by simp only[go_sem,simprocAttr,L.t8],by simp only[go_sem,simprocAttr,L.t10],by simp only[go_sem,simprocAttr,L.t11]⟩ (by simp only[go_sem,simprocAttr,t12]) (by simp only[go_sem,simprocAttr,t21]) J o hc sq.done
def I101e (P:LL->Prop)(ms:List MV)(above:List Int)(w b10 b21:Nat)(V11:AV)(args:List T)(cells:List AV)(v0:T)(l0:List T)(c0:Option Int)(d:Int)(h0:AH)(j:Nat)(fr:AF)(h:AH):Prop:=∃tm V v l c,l.length=j/\fr=⟨tm,⟨[],.no,none,101⟩⟩/\
 pQ ms above w (h0.z+1) b10 V11 tm/\nth tm 12=V/\nth tm 21=.ptr b21 0 0/\tS w b10 b21 cells args V11 v h0 h/\Ro (b21+1) h V l/\Cn h w c/\cY v l c=cY v0 l0 c0/\
 (c≠none->Ok P ms.length v d/\¬lH v/\∀x∈l,Ok P ms.length x d/\¬lH x)
theorem ij {t:T}(h:¬lH t):io t<=95:=by
 unfold lH at h;omega
theorem NZ (hK:bW K)(kc:KC K)(kd:KD K)(ke:KE K)(above:List Int)(c0:Option Int)(V11:AV)(args:List T)(h0:AH)(b10 b21:Nat)(cells:List AV)(v0:T)(l0:List T)(d:Int)(hd0:0<=d)(hd1:d<=1000)(hM:12100<=M)(hlen:l0.length<=60)
  (hX:∀tm H V v l c,pQ ms above w (h0.z+1) b10 V11 tm->nth tm 12=V->nth tm 21=.ptr b21 0 0->tS w b10 b21 cells args V11 v h0 H->Ro (b21+1) H V l->Cn H w c->cY v0 l0 c0=(v,l,c)->R (cS K (M+2)) 60000 k Q (.exit 8) ⟨tm,⟨[],.no,none,101⟩⟩ H)
  (tm:Tm) (H:AH) (V:AV) (L:pQ ms above w (h0.z+1) b10 V11 tm) (t12:nth tm 12=V) (t21:nth tm 21=.ptr b21 0 0) (J:tS w b10 b21 cells args V11 v0 h0 H) (o:Ro (b21+1) H V l0) (hc:Cn H w c0)
  (hok:c0≠none->Ok P ms.length v0 d/\¬lH v0/\∀x∈l0,Ok P ms.length x d/\¬lH x) :
  R (cS K (M+2)) 60000 (.code (.loop zS)::k) Q .normal ⟨tm,⟨[],.no,none,101⟩⟩ H:=by
 refine bD (I101e P ms above w b10 b21 V11 args cells v0 l0 c0 d h0) l0.length (by omega) ⟨tm,V,v0,l0,c0,rfl,rfl,L,t12,t21,J,o,hc,rfl,hok⟩ ?_;clear t12 t21 L J hc H tm o V hok;rintro j fr H ⟨tm,V,v,l,c,hj,rfl,L,t12,t21,J,o,hc,hb,hok⟩;have t3:=L.t3;have g21:=J.g21;have nx:=J.nx;have lo:=J.lo;have lo1:=J.J.lo;have wl:=J.J.wl;have hlv:=o.len;unfold au at g21;unfold zS;have done:cY v l c=(v,l,c)->R (cS K (M+2)) 60000 k Q (.exit 8) ⟨tm,⟨[],.no,none,101⟩⟩ H:=fun e=>hX tm H V v l c L t12 t21 J o hc (by rw[<-hb,e])
 have stop:∀tm',pQ ms above w (h0.z+1) b10 V11 tm'->nth tm' 12=V->nth tm' 21=.ptr b21 0 0->cY v l c=(v,l,c)->R (cS K (M+2)) 60000 k Q (.exit 8) ⟨tm',⟨[],.no,none,101⟩⟩ H:=fun tm' q1 q2 q3 e=>hX tm' H V v l c q1 q2 q3 J o hc (by rw[<-hb,e])
 have LL:∀{tm'},(∀i,i<=29->nth tm' i=nth tm i)->pQ ms above w (h0.z+1) b10 V11 tm'/\nth tm' 12=V/\nth tm' 21=.ptr b21 0 0:=fun q=>⟨⟨(q 0 (by omega)).trans L.t0,(q 2 (by omega)).trans L.t2,(q 3 (by omega)).trans L.t3,(q 8 (by omega)).trans L.t8,(q 10 (by omega)).trans L.t10,(q 11 (by omega)).trans L.t11⟩,(q 12 (by omega)).trans t12,(q 21 (by omega)).trans t21⟩
 cases l with
 |nil=>
  have d1:decide ((0:Int)<((0:Nat):Int))=false:=by simp
  simp only[go_sem,simprocAttr,t12,hlv];refine stop _ ⟨by simp only[go_sem,simprocAttr,L.t0],by simp only[go_sem,simprocAttr,L.t2],by simp only[go_sem,simprocAttr,L.t3],by simp only[go_sem,simprocAttr,L.t8],by simp only[go_sem,simprocAttr,L.t10],by simp only[go_sem,simprocAttr,L.t11]⟩ (by simp only[go_sem,simprocAttr,t12]) (by simp only[go_sem,simprocAttr,t21]) (by simp[cY])
 |cons x l=>
  have d1:decide ((0:Int)<((l.length+1:Nat):Int))=true:=HE (by omega);by_cases hk:v.kind=5
  ·have d2:decide (v.kind=5)=true:=HE hk;cases c with
   |none=>
    obtain⟨f,gw⟩:=hc;simp only[go_sem,simprocAttr,t3,t12,t21,hlv,d1,d2,g21,gw];refine stop _ ⟨by simp only[go_sem,simprocAttr,L.t0],by simp only[go_sem,simprocAttr,L.t2],by simp only[go_sem,simprocAttr,L.t3],by simp only[go_sem,simprocAttr,L.t8],by simp only[go_sem,simprocAttr,L.t10],by simp only[go_sem,simprocAttr,L.t11]⟩ (by simp only[go_sem,simprocAttr,t12]) (by simp only[go_sem,simprocAttr,t21]) (pB _ _)
   |some f=>
    obtain⟨ok1,ok2,ok3⟩:=hok (by simp);obtain⟨a,b,ekk,oa,ob⟩:=zn ok1 hk;obtain⟨ox1,ox2⟩:=ok3 x (by simp);obtain⟨kk,g,off,all,fz,rfl,q2,q3,q4,q5⟩:∃(kk g off:Nat) (all:List T) (fz:Nat),V=.row kk g 5 off (l.length+1)/\H.get kk=some (.row g 5 true (flat (all.map enc)) fz)/\all.drop off=x::l/\b21+1<=kk/\kk<H.z:=by
     rcases o with⟨_,q⟩|q
     ·cases q
     ·exact q
    have gw:=hc.2.2;have hsl:=fun h=>sZ (k:=kk) (g:=g) (off:=off) (n:=l.length+1) h (by omega)
    have hsr:=fun h tm=>ud (k:=kk) (g:=g) (off:=off) (n:=l.length+1) h tm (by omega)
    have hcan:=GO (k:=kk) (g:=g) (off:=off) (m:=1) q2 (by rw[q3];simp);rw[q3]at hcan;obtain⟨H1,hH1⟩:∃H1:AH,H1=H.set kk (.row g 5 true (flat (all.map enc)) (max fz ((off+1)*5))):=⟨_,rfl⟩
    rw[<-hH1]at hcan;have k1:∀a,a<b21+1->H1.get a=H.get a:=fun a q=>by subst hH1;exact an (by omega)
    have n1:H1.z=H.z:=by subst hH1;exact co _ _ _
    have r1:H1.get kk=some (.row g 5 true (flat (all.map enc)) (max fz ((off+1)*5))):=by subst hH1;exact aC _ _ _
    clear hH1;have hkid:v.K=[a,b]:=ekk;have hia:∀h,cz (.ls (v.K.map enc)) h 5 (wt 1)=.val (.vptr (enc b)) h:=fun h=>aN (m:=1) aZ (by rw[hkid];rfl) .i64 h
    have hsb:size b<=2000/\io b<=95:=by
     have h1:=gL ok2;have h2:=ij ok2;obtain⟨k',i',nm',ls',ks'⟩:=v;simp only[T.K]at hkid;subst hkid;simp only[size,aW,io,depths]at h1 h2;omega
    have hvb:Vb 30000 b:=Fe b _ ob (by omega);have hxv:∀y∈([x]:List T),size y<=10000/\Vb 30000 y:=by
     intro y hy;simp at hy;subst hy;have:=gL ox2;have:=ij ox2;exact⟨by omega,Fe _ _ ox1 (by omega)⟩
    have J1:=J.low (by omega) k1;have e150:cS K (M+2) (.fn 150 [] []) [.ptr w 0 0,enc b,.row kk g 5 off 1] .no H=cS K (M+2) (.fn 150 [] []) [.ptr w 0 0,enc b,.ls (([x]:List T).map enc)] .no H1:=
     vZ (ae (dh _ _ _ _) (ae (aP _ _) (ae hcan (aB _)))) (ae (dh _ _ _ _) (ae (aP _ _) (ae (iL _ _) (aB _))))
    obtain⟨_,H2,e2,rfl,k2,c2⟩:=c150 hK kc kd ke b [x] hxv (by simp) M (by omega) (by omega) hvb w (some f) H1 (Cn.kw hc (k1 w (by omega))) (by omega);rw[e2]at e150;have n2:=k2.z;have J2:=J1.up k2;have hs2:=aQ J2.g21 (gu b [x]).1;have J3:=J2.put (gu b [x]).1;have r3:(H2.set b21 (.box (au (gu b [x]).1))).get kk=some (.row g 5 true (flat (all.map enc)) (max fz ((off+1)*5))):=by rw[an (by omega),k2.kw kk (by omega) (by omega)];exact r1
    simp only[go_sem,simprocAttr,t3,t12,t21,hlv,d1,d2,g21,gw,hia,hsl,hsr,e150,hs2];refine⟨l.length,by simp at hj;omega,_,.row kk g 5 (off+1) (l.length+1-1),(gu b [x]).1,l,eP (gu b [x]).1 (gu b [x]).2 (some f),rfl,rfl,⟨by simp only[go_sem,simprocAttr,L.t0],by simp only[go_sem,simprocAttr,L.t2],by simp only[go_sem,simprocAttr,L.t3],by simp only[go_sem,simprocAttr,L.t8],by simp only[go_sem,simprocAttr,L.t10],by simp only[go_sem,simprocAttr,L.t11]⟩,by simp only[go_sem,simprocAttr],by simp only[go_sem,simprocAttr,t21],J3,?_,c2.kw (an (by omega)),?_,?_⟩
    ·exact .inr ⟨kk,g,off+1,all,_,rfl,r3,by rw[<-List.drop_drop,q3];rfl,q4,by rw[co];omega⟩
    ·rw[<-hb];have eb:v.K.getD 1 tZ=b:=by rw[hkid];rfl
     rw[cY,wae ⟨hk,by simp⟩,eb]
    ·intro hcn;obtain⟨f',hf'⟩:=waf.1 hcn;obtain⟨z0,_,z1⟩:=dn hf';refine⟨?_,z1,fun y hy=>ok3 y (by simp[hy])⟩;rw[uL z0];have:=qQ [x] hd0 (fun y hy=>by simp at hy;subst hy;exact ox1) b 0 (Int.le_refl 0) (by
      rw[show(0:Int)+(([x]:List T).length:Int)+d=d+1 by simp;omega];exact ob)
     rw[Int.zero_add]at this;exact this
  ·have d2:decide (v.kind=5)=false:=HD hk;simp only[go_sem,simprocAttr,t12,t21,hlv,d1,d2,g21];refine stop _ ⟨by simp only[go_sem,simprocAttr,L.t0],by simp only[go_sem,simprocAttr,L.t2],by simp only[go_sem,simprocAttr,L.t3],by simp only[go_sem,simprocAttr,L.t8],by simp only[go_sem,simprocAttr,L.t10],by simp only[go_sem,simprocAttr,L.t11]⟩ (by simp only[go_sem,simprocAttr,t12]) (by simp only[go_sem,simprocAttr,t21]) (by simp[cY,hk])
end
