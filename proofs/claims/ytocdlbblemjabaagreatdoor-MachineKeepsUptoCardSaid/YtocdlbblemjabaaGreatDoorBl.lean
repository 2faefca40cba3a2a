/- MachineKeeps: level.Subst, run (no condition). -/
import Derived.Test.YtocdlbblemjabaaGreatDoorBk
namespace Go.Proofs.YtocdlbblemjabaaGreatDoor
open Go.AG Go.AG.MK
theorem Gk {ps:List LL}{vs:List LV}{s:Int×Es}{p:Nat}{x:LV}(e:vs[p]?=some x):(vs.take (p+1)).foldl (nI ps) s=nI ps ((vs.take p).foldl (nI ps) s) x:=by
 rw[List.take_add_one,e,Option.toList_some,List.foldl_append];rfl
theorem Bf {l:LL}(vl:VL l):∀ x∈l.vars,Rng x:=by
 intro x hx;obtain⟨i,hi⟩:=List.getElem?_of_mem hx;exact vl.rng i x hi
theorem GE.step {ps:List LL}(hp:∀ l∈ps,VL l){s:Int×Es}(g:GE s.2){x:LV}(r:Rng x):GE (nI ps s x).2:=by
 obtain⟨r1,r2,r3,r4⟩:=r;unfold nI;split
 ·exact g.raise ⟨r1,r2⟩ ⟨r3,o_⟩
 ·split
  ·rename_i q hq;exact GE.add ⟨r3,r4⟩ _ g (Bf (hp q (m_ hq)))
  ·exact g
theorem GE.fold {ps:List LL}(hp:∀ l∈ps,VL l):∀ (vs:List LV) {s:Int×Es},GE s.2->(∀ x∈vs,Rng x)->GE (vs.foldl (nI ps) s).2
 |[],_,g,_=>g
 |x::vs,s,g,h=>GE.fold hp vs (g.step hp (h x (by simp))) fun y hy=>h y (by simp[hy])
theorem VL.param {l:LL}(vl:VL l){p:Nat}{x:LV}(e:l.vars[p]?=some x):x.idx+1<=lT l:=by
 have hp:p<l.vars.length:=(E_.1 e).1;have hget:l.vars[l.vars.length-1]?=some l.vars[l.vars.length-1]:=a_ o_;have:=vl.idx_le (l.vars.length-1-p) p x l.vars[l.vars.length-1] e (by rw[show p+(l.vars.length-1-p)=l.vars.length-1 by omega];exact hget);unfold lT;rw[hget];simp only;omega
section
variable {K:aQ}{h:AH}
def I328 (b km:Nat)(h0:AH)(l:LL)(ps:List LL)(t4:Nat)(j:Nat)(fr:AF)(h:AH):Prop:=∃ tm p s,p+j=l.vars.length/\fr=⟨tm,⟨[],.no,none,181⟩⟩/\s=(l.vars.take p).foldl (nI ps) (l.c,[])/\Sx b km h0 h s.1 s.2/\
 nth tm 1=.ls (ps.map ba)/\nth tm 4=.ptr t4 0 0/\nth tm 6=.ptr b 0 0/\nth tm 31=.ls (l.vars.map bV)/\nth tm 32=i_ (l.vars.length:Int)/\nth tm 33=i_ (p:Int)
theorem c328 (hK:aZ K)(ks:KS K)(m:Nat){l:LL}(vl:VL l){ps:List LL}(vp:∀ l∈ps,VL l)(hl:ps.length<1000000):
  ∃ v h',cS K (m+10) (.fn 181 [] []) [ba l,.ls (ps.map ba)] .no h=some (.ret v,.no,h')/\Tg (nJ l ps) v/\HK h h':=by
 refine bh hK cf328 (ae (jz l h) (ae (pZ ps h) (aC _))) ?_;have hvl:=vl.len;obtain⟨H,hH⟩:∃ H:AH,H=(h.new (.box [i_ l.c,.ls (l.vars.map bV)])).new (.box [i_ 0,.nl]):=⟨_,rfl⟩
 have n1:=ala h (.box [i_ l.c,.ls (l.vars.map bV)]);have k0:HK h H:=by rw[hH];exact(HK.new _ _).add _
 have g2:H.get h.z=some (.box [i_ l.c,.ls (l.vars.map bV)]):=by rw[hH,aL o_,aE]
 have g4:H.get (h.z+1)=some (.box [i_ 0,.nl]):=by rw[hH,<- n1,aE]
 have n0:H.z=h.z+2:=by rw[hH,ala,n1]
 obtain⟨v,H1,e1,rfl,k1⟩:=ak0 (h:=H) hK (m+4) vl o_;obtain⟨v,H2,e2,rfl,k2⟩:=c163 (h:=H1) hK m vp hl;obtain⟨v,H3,e3,rfl,k3⟩:=c329 (h:=H2) hK (m+3) vl;have nx1:=k1.z;have nx2:=k2.z;have nx3:=k3.z;have k03:=(k1.trans k2).trans k3;have g21:=(k1.kw _ o_).trans g2;have g22:=(k2.kw _ o_).trans g21;have g23:=(k3.kw _ o_).trans g22;have g43:=(k03.kw _ o_).trans g4;unfold b328;simp only[go_sem,simprocAttr,pB,n1];rw[<- hH];clear hH;simp only[go_sem,simprocAttr,Xe,g2,g22,lp,e1,e2,Xf,e3,L_];refine aX (fun hp=>?_) (fun hp=>?_)
 ·simp only[go_sem,simprocAttr,Bt,g43];refine⟨rfl,rfl,.inr rfl,[.agg [i_ 0,.nl],i_ 24],by simp only[go_sem,simprocAttr,akP],.tup [ba ⟨0,[]⟩,i_ 24],_,bz (ae (HG _) (ae (aG _ _ _) (aC _))),?_,(k0.trans k03).set _ o_⟩;unfold nJ;rw[P_ o_];exact⟨24,by decide,rfl⟩
 ·obtain⟨v,H4,e4,b,km,rfl,s4⟩:=c164 (h:=H3) hK (m+8);have k4:=s4.hk;have g24:=(k4.kw _ o_).trans g23;have gb4:=s4.gb;have lb:=s4.lb;have s5:=s4.cst l.c;obtain⟨H5,hH5⟩:∃ H5:AH,H5=H4.set b (.box [.map km,i_ l.c]):=⟨_,rfl⟩
  have g25:H5.get h.z=some (.box [i_ l.c,.ls (l.vars.map bV)]):=by rw[hH5,aB o_];exact g24
  rw[<- hH5]at s5;simp only[go_sem,simprocAttr,Xg,e4,Xh,g24,gb4];rw[<- hH5];clear hH5;simp only[go_sem,simprocAttr,Xi,g25,L_];refine bB (I328 b km H3 l ps (h.z+1)) l.vars.length o_ ⟨_,0,_,z_ _,rfl,rfl,s5,k_,k_,k_,k_,k_,k_⟩ ?_;rintro j fr H6 ⟨tm,p,s,hp',rfl,hs,s6,t1,t4,t6,t31,t32,t33⟩;unfold Zv;simp only[go_sem,simprocAttr,t32,t33,Xk];have ge:GE s.2:=by rw[hs];exact GE.fold vp _ GE.nil fun x hx=>Bf vl x (List.mem_of_mem_take hx)
  refine aX (fun hlt=>?_) (fun hge=>?_)
  ·have hlt:p<l.vars.length:=o_;have hget:l.vars[p]?=some l.vars[p]:=a_ hlt;have ha:=fun h=>aK cV hget .i64 h
   have ele:=gi l.vars[p];have hw:=aP p o_;have hpar:=vl.param hget;obtain⟨r1,r2,r3,r4⟩:=vl.rng _ _ hget;have hv:bV l.vars[p]=.agg [i_ l.vars[p].idx,i_ l.vars[p].plus]:=rfl;have hfs:=Gk (ps:=ps) (s:=(l.c,[])) hget;rw[<- hs]at hfs;obtain⟨H7,hH7⟩:∃ H7:AH,H7=(H6.new (.box [i_ 0,i_ 0])).set H6.z (.box [i_ l.vars[p].idx,i_ l.vars[p].plus]):=⟨_,rfl⟩
   have k7:HK H6 H7:=by rw[hH7];exact(HK.new _ _).set _ (e_ _)
   have g7:H7.get H6.z=some (.box [i_ l.vars[p].idx,i_ l.vars[p].plus]):=by rw[hH7,aH]
   have s7:=s6.up k7;have gb7:=s7.gb;simp only[go_sem,simprocAttr,Xl,t31,t33,ha,hv];rw[<- hH7];clear hH7;simp only[go_sem,simprocAttr,Xm,g7];refine aX (fun hneg=>?_) (fun hneg=>?_)
   ·obtain⟨v,H8,e8,rfl,gm8,nx8,kp8⟩:=c166 hK (m+8) l.vars[p].idx l.vars[p].plus s7.gm;have hst:nI ps s l.vars[p]=(s.1,jC s.2 l.vars[p].idx l.vars[p].plus):=by unfold nI;rw[P_ hneg]
    simp only[go_sem,simprocAttr,t6,gb7,g7,e8,t33,hw];refine⟨j-1,o_,_,p+1,_,o_,rfl,rfl,?_,q_ t1,q_ t4,q_ t6,q_ t31,q_ t32,k_⟩;rw[hfs,hst];exact s7.raise gm8 nx8 kp8
   ·have hnn:l.vars[p].idx=((l.vars[p].idx.toNat:Nat):Int):=o_;have hil:l.vars[p].idx.toNat<ps.length:=o_;have hq:ps[l.vars[p].idx.toNat]?=some ps[l.vars[p].idx.toNat]:=a_ hil;have hiq:∀ h,cz (.ls (ps.map ba)) h 2 (i_ l.vars[p].idx)=.val (.vptr (ba ps[l.vars[p].idx.toNat])) h:=fun h=>by
     have:=aK eC hq .i64 h;rwa[<- hnn]at this
    have elq:=jb ps[l.vars[p].idx.toNat];obtain⟨v,H8,e8,rfl,s8⟩:=c165 hK (m+7) s7 (vp _ (m_ hq)) (n:=l.vars[p].plus) ⟨r3,r4⟩;have hst:nI ps s l.vars[p]=(max s.1 (ps[l.vars[p].idx.toNat].c+l.vars[p].plus),HE s.2 ps[l.vars[p].idx.toNat].vars l.vars[p].plus):=by unfold nI;rw[N_ hneg,hq]
    simp only[go_sem,simprocAttr,t1,t6,g7,hiq,elq,e8,t33,hw];refine⟨j-1,o_,_,p+1,_,o_,rfl,rfl,?_,q_ t1,q_ t4,q_ t6,q_ t31,q_ t32,k_⟩;rw[hfs,hst];exact s8
  ·have hpp:p=l.vars.length:=o_;subst hpp;rw[List.take_length]at hs;obtain⟨v,H7,e7,ho,k7⟩:=c167 hK ks (m+3) s6 ge;have g47:=(k7.kw _ (by have:=s6.hk.z;omega)).trans ((s6.hk.kw _ o_).trans g43);have hlv:nJ l ps=ahx (s.1,s.2):=by unfold nJ;rw[N_ o_,hs]
   rw[<- hlv]at ho;obtain⟨w,e,rfl⟩:∃ w e,v=.tup [ba w,i_ e]:=by
    unfold Tg at ho;split at ho
    ·obtain⟨e,_,rfl⟩:=ho;exact⟨_,_,rfl⟩
    ·exact⟨_,_,ho⟩
   have hw:ba w=.agg [i_ w.c,.ls (w.vars.map bV)]:=rfl;simp only[go_sem,simprocAttr,Xj,t6,e7,t4,hw,g47];refine⟨rfl,rfl,.inr rfl,[ba w,i_ e],?_,.tup [ba w,i_ e],_,bz (ae (jz _ _) (ae (aG _ _ _) (aC _))),ho,(((k0.trans k03).trans s6.hk).trans k7).set _ o_⟩;simp only[go_sem,simprocAttr,akP,t4];rfl
end
theorem vQ (l:List LL):(AV.ls (l.map ba)).norm=.ls (l.map ba):=by simp only[AV.norm,Gu]
theorem OO (l:List T):(AV.ls (l.map enc)).norm=.ls (l.map enc):=by simp only[AV.norm,uY]
theorem HK.new_set (h:AH)(o o':fD):HK h ((h.new o).set h.z o'):=(HK.new _ _).set _ (e_ _)
theorem GM (e:Int):lh (.ifc 260 (i_ e)) 260 (i_ 0) true=some (.tup [i_ e,.bool true]):=(rfl)
theorem CT (e:Int)(h:AH):cE (.ifc 260 (i_ e)) h=(.ifc 260 (i_ e),h):=bG (by simp[AV.free]) h
attribute [go_sem] GM
theorem aka {base:Nat}{h:AH}{V:AV}{l:List T}(k i:Int)(nm:ByteArray)(ls:List LL)(o:Own base 5 true h V (l.map enc)):
  ∃ h',cE (.agg [i_ k,i_ i,.str nm,.ls (ls.map ba),V]) h=(enc (.mk k i nm ls l),h')/\h'.z=h.z/\∀ j,j<base->h'.get j=h.get j:=by
 have key:∀ x h',cP V h=(x,h')->x.norm=.ls (l.map enc)->cE (.agg [i_ k,i_ i,.str nm,.ls (ls.map ba),V]) h=(enc (.mk k i nm ls l),h'):=by
  intro x h' e hx;have e2:cC [i_ k,i_ i,.str nm,.ls (ls.map ba),V] h=([i_ k,i_ i,.str nm,.ls (ls.map ba),x],h'):=by
   simp only[cC,dw (show(AV.int .i64 k).free=true from rfl),dw (show(AV.int .i64 i).free=true from rfl),dw (show(AV.str nm).free=true from rfl),dw (show(AV.ls (ls.map ba)).free=true by simp only[AV.free];exact bE hJ ls),e]
  show((AV.agg (cC _ h).1).norm,(cC _ h).2)=_;rw[e2,xK (vQ ls) hx]
 rcases own_shut o (fun h=>by cases h) with⟨rfl,e,e2⟩|⟨k',g,e1,e2,e3,e4⟩
 ·rw[List.map_eq_nil_iff]at e;subst e;exact⟨h,key _ _ e2 rfl,rfl,fun _ _=>rfl⟩
 ·exact⟨_,key _ _ e2 (OO l),alb _ _ _,fun j hj=>aB o_⟩
structure Ub (t:T)(h0 h:AH)(V:AV)(out:List T):Prop where
 b6:h.get h0.z=some (.box (aJ t))
 b10:h.get (h0.z+1)=some (.box [i_ 0,i_ 0,.str (bs []),.nl,.nl])
 own:Own (h0.z+2) 5 true h V (out.map enc)
 kw:HK h0 h
 nx:h0.z+2<=h.z
theorem Ub.init (t:T)(h:AH):Ub t h ((h.new (.box (aJ t))).new (.box [i_ 0,i_ 0,.str (bs []),.nl,.nl])) .nl []:=by
 refine⟨?_,?_,fp _ _ _ _,(HK.new _ _).add _,by simp only[ala];omega⟩
 ·rw[aL (by rw[ala];omega),aE]
 ·rw[<- ala h (.box (aJ t)),aE]
theorem Ub.up {t:T}{h0 h h':AH}{V:AV}{out:List T}(J:Ub t h0 h V out)(k:HK h h'):Ub t h0 h' V out:=by
 have:=J.nx;exact⟨(k.kw _ o_).trans J.b6,(k.kw _ o_).trans J.b10,cd J.own k.z (fun a _ q=>k.kw a q),J.kw.trans k,Nat.le_trans J.nx k.z⟩
theorem ac9 {B1 B2:Nat}{h:AH}{V4 V5:AV}{ls:List LL}{l:List T}(k i:Int)(nm:ByteArray)(o4:Own B1 2 true h V4 (ls.map ba))(hr:∀ a g n,V4=.row a g 2 0 n->a<B2)(o:Own B2 5 true h V5 (l.map enc))(hB:B1<=B2):
  ∃ h',cE (.agg [i_ k,i_ i,.str nm,V4,V5]) h=(enc (.mk k i nm ls l),h')/\h'.z=h.z/\∀ j,j<B1->h'.get j=h.get j:=by
 have key:∀ x h1 y h2,cP V4 h=(x,h1)->cP V5 h1=(y,h2)->x.norm=.ls (ls.map ba)->y.norm=.ls (l.map enc)->cE (.agg [i_ k,i_ i,.str nm,V4,V5]) h=(enc (.mk k i nm ls l),h2):=by
  intro x h1 y h2 e1 e2 hx hy;have e3:cC [i_ k,i_ i,.str nm,V4,V5] h=([i_ k,i_ i,.str nm,x,y],h2):=by
   simp only[cC,dw (show(AV.int .i64 k).free=true from rfl),dw (show(AV.int .i64 i).free=true from rfl),dw (show(AV.str nm).free=true from rfl),e1,e2]
  show((AV.agg (cC _ h).1).norm,(cC _ h).2)=_;rw[e3,xK hx hy]
 have fin5:∀ h1,Own B2 5 true h1 V5 (l.map enc)->∃ y h2,cP V5 h1=(y,h2)/\y.norm=.ls (l.map enc)/\h2.z=h1.z/\∀ j,j<B2->h2.get j=h1.get j:=by
  intro h1 o;rcases own_shut o (fun h=>by cases h) with⟨rfl,e,e2⟩|⟨k',g,e1,e2,e3,e4⟩
  ·rw[List.map_eq_nil_iff]at e;subst e;exact⟨_,_,e2,rfl,rfl,fun _ _=>rfl⟩
  ·exact⟨_,_,e2,OO l,alb _ _ _,fun j hj=>aB o_⟩
 rcases own_shut o4 (fun h=>by cases h) with⟨rfl,e,e2⟩|⟨k',g,e1,e2,e3,e4⟩
 ·rw[List.map_eq_nil_iff]at e;subst e;obtain⟨y,h2,q1,q2,q3,q4⟩:=fin5 h o;exact⟨h2,key _ _ _ _ e2 q1 rfl q2,q3,fun j hj=>q4 j o_⟩
 ·have hk:=hr _ _ _ e1;obtain⟨y,h2,q1,q2,q3,q4⟩:=fin5 _ (cd (h':=h.set k' (.row g 2 true (flat (ls.map ba)) ((ls.map ba).length*2))) o (by rw[alb];exact e_ _) (fun a q _=>aB o_));refine⟨h2,key _ _ _ _ e2 q1 (vQ ls) q2,by rw[q3,alb],fun j hj=>by rw[q4 j o_,aB o_]⟩
theorem Dx {α:Type}(l:List α)(p:Nat)(x:α)(h:p<l.length):(l.set p x).take (p+1)=l.take p++[x]:=by
 rw[List.take_add_one,List.take_set_of_le (e_ p),List.getElem?_set_self h];rfl
section
variable {K:aQ}
variable {cl:Nat->aQ}
theorem c88 (r:Rn cl 204)(m:Nat)(e:Int)(h:AH):cl (m+1) (.fn 204 [] []) [i_ e] .no h=some (.pan (.ifc 260 (i_ e)),.no,h):=by
 obtain⟨o,rc,h',e1,rfl,rfl,rfl⟩:=r m [] _ _ .no h _ _ _ _ (fun o rc h'=>o=.pan (.ifc 260 (i_ e))/\rc=.no/\h'=h) cf88 (ae (aG _ _ _) (aC _)) (by
  simp only[A_];unfold b88;simp only[go_sem,simprocAttr];exact lP ⟨rfl,rfl,rfl⟩)
 exact e1
theorem c84 (r:Rn cl 201)(m:Nat)(e:Int)(h:AH):cl (m+1) (.fn 201 [] []) [.ifc 260 (i_ e)] .no h=some (.ret (i_ e),.no,h):=by
 obtain⟨o,rc,h',e1,rfl,rfl,rfl⟩:=r m [] _ _ .no h _ _ _ _ (fun o rc h'=>o=.ret (i_ e)/\rc=.no/\h'=h) cf84 (ae (CT _ _) (aC _)) (by
  simp only[A_];unfold b84;simp only[go_sem,simprocAttr,aeb,aec,aed];exact jE (.inr rfl) (by simp only[go_sem,simprocAttr,r84];rfl) ⟨_,_,rfl,rfl,rfl,rfl⟩)
 exact e1
theorem c161p (r:Rn cl 200)(r84:Rn cl 201)(m a b:Nat)(e x:Int)(h:AH)(ga:∃ c1 c2 c3 c4 c5,h.get a=some (.box [c1,c2,c3,c4,c5]))(gb:h.get b=some (.box [i_ x]))(hne:a≠b):
  cl (m+2) (.fn 200 [] [.ptr a 0 0,.ptr b 0 0]) [] (.pend (.ifc 260 (i_ e))) h=some (.ret (.tup []),.done,(h.set a (.box [i_ 0,i_ 0,.str (bs []),.nl,.nl])).set b (.box [i_ e])):=by
 obtain⟨c1,c2,c3,c4,c5,ga⟩:=ga;obtain⟨o,rc,h',e1,rfl,rfl,rfl⟩:=r (m+1) [.ptr a 0 0,.ptr b 0 0] _ _ (.pend (.ifc 260 (i_ e))) h _ _ _ _ (fun o rc h'=>o=.ret (.tup [])/\rc=.done/\h'=(h.set a (.box [i_ 0,i_ 0,.str (bs []),.nl,.nl])).set b (.box [i_ e])) afz (aC _) (by
  have e84:=fun h=>c84 r84 m e h
  have hne':¬ b=a:=fun q=>hne q.symm
  unfold ak3;simp only[go_sem,simprocAttr,HY,e84,ga,gb,hne'];exact jE (.inl rfl) rfl ⟨.tup [],_,bz (aC _),rfl,rfl,rfl⟩)
 exact e1
theorem c161r (r:Rn cl 200)(m a b:Nat)(h:AH):cl (m+1) (.fn 200 [] [.ptr a 0 0,.ptr b 0 0]) [] .ret h=some (.ret (.tup []),.ret,h):=by
 obtain⟨o,rc,h',e1,rfl,rfl,rfl⟩:=r m [.ptr a 0 0,.ptr b 0 0] _ _ .ret h _ _ _ _ (fun o rc h'=>o=.ret (.tup [])/\rc=.ret/\h'=h) afz (aC _) (by
  unfold ak3;simp only[go_sem,simprocAttr,HY];exact jE (.inl rfl) rfl ⟨.tup [],_,bz (aC _),rfl,rfl,rfl⟩)
 exact e1
theorem zN (h:AH)(l:List LV)(hl:l.length<=65544):∃ y h',cU h 2 true [i_ 0,i_ 0] 16 .nl (.ls (l.map bV))=some (y,h')/\HK h h'/\y.cells=[y]/\y.lies=true/\AV.beq y y=true/\(y=.nl∨∃ k g n,y=.row k g 2 0 n):=by
 have e0:cU h 2 true [i_ 0,i_ 0] 16 .nl (.ls (l.map bV))=List.casesOn (l.map bV) (pS .nl h) fun y ys=>jw .nl h 2 true 16 (y::ys):=by
  show aD (cond (ew 2 (l.map bV)) (some (l.map bV)) none) (fun xs=>cond (and (fy xs) (Nat.beq (len ([i_ 0,i_ 0]:List AV)) 2)) _ _)=_;rw[oU cV];show cond (and (fy (l.map bV)) true) _ _=_;rw[vh (fun _=>rfl)];rfl
 cases l with
 |nil=>exact⟨.nl,h,e0,HK.refl _,rfl,rfl,rfl,.inl rfl⟩
 |cons a l=>
  have hneed:need 0 ((a::l).map bV).length 16=true:=by
   show and (Nat.ble ((2*(0+((a::l).map bV).length)+1000)*16) 140737488355328) (Nat.ble (0+((a::l).map bV).length) 9223372036854775807)=true;simp only[L_]at *;rw[fh o_,fh o_];rfl
  refine⟨.row h.z 0 2 0 ((a::l).map bV).length,h.new (.row 0 2 true (flat ((a::l).map bV)) 0),?_,HK.new _ _,rfl,rfl,Bv _ _ _ _ _,.inr ⟨_,_,_,rfl⟩⟩;rw[e0];show cond (need 0 (len ((a::l).map bV)) 16) (some (AV.row h.z 0 2 0 (len ((a::l).map bV)),h.new (.row 0 2 true (flat ((a::l).map bV)) 0))) none=_;rw[bH,hneed];rfl
structure adQ (t:T)(V:AV)(h0 h:AH)(out:List AV):Prop where
 g1:h.get h0.z=some (.box (aJ t))
 g2:h.get (h0.z+1)=some (.box [i_ 0,i_ 0,.str (bs []),.nl,.nl])
 g3:h.get (h0.z+2)=some (.box [i_ t.kind,i_ t.idx,.str t.name,V,.nl])
 own:Own (h0.z+3) 2 true h V out
 kw:HK h0 h
 nx:h0.z+3<=h.z
theorem adQ.up {t:T}{V:AV}{h0 h h':AH}{out:List AV}(J:adQ t V h0 h out)(k:HK h h'):adQ t V h0 h' out:=by
 have:=J.nx;exact⟨(k.kw _ o_).trans J.g1,(k.kw _ o_).trans J.g2,(k.kw _ o_).trans J.g3,cd J.own k.z (fun a _ q=>k.kw a q),J.kw.trans k,Nat.le_trans J.nx k.z⟩
def I87r (t:T)(h0:AH)(j:Nat)(fr:AF)(h:AH):Prop:=∃ tm p V out,p+j=t.L.length/\fr=⟨tm,⟨[],.no,none,203⟩⟩/\nth tm 2=.ptr (h0.z+1) 0 0/\nth tm 3=.ptr (h0.z+2) 0 0/\nth tm 14=.ls (t.L.map ba)/\nth tm 15=i_ (t.L.length:Int)/\nth tm 16=i_ (p:Int)/\adQ t V h0 h out/\out.length=p
theorem c87r (hK:aZ K)(m:Nat)(t:T)(h:AH)(l1:t.L.length<=8)(l2:∀ l∈t.L,VL l):
  ∃ v h',cS K (m+1) (.fn 203 [] []) [enc t] .no h=some (.ret v,.no,h')/\(∃ V out,v=.agg [i_ t.kind,i_ t.idx,.str t.name,V,.nl]/\Own h.z 2 true h' V out/\out.length=t.L.length)/\HK h h':=by
 refine Pg hK cf87 (ae (bR _ _) (aC _)) ?_;simp only[A_];have J0:=Ub.init t h;obtain⟨H,hH⟩:∃ H:AH,H=((h.new (.box (aJ t))).new (.box [i_ 0,i_ 0,.str (bs []),.nl,.nl])):=⟨_,rfl⟩
 rw[<- hH]at J0;have n0:H.z=h.z+2:=by subst hH;simp only[ala]
 have b6:=J0.b6;have b10:=J0.b10;obtain⟨H1,hH1⟩:∃ H1:AH,H1=(H.new (.box [i_ 0,i_ 0,.str (bs []),.nl,.nl])).set (h.z+2) (.box [i_ t.kind,i_ t.idx,.str t.name,.nl,.nl]):=⟨_,rfl⟩
 have k1:HK H H1:=by subst hH1;exact(HK.new _ _).set _ o_
 have n1:H1.z=h.z+3:=by subst hH1;simp only[alb,ala,n0]
 have J:adQ t .nl h H1 []:=⟨(k1.kw _ o_).trans b6,(k1.kw _ o_).trans b10,by subst hH1;exact aH _ _ _,fp _ _ _ _,J0.kw.trans k1,o_⟩;have hbd:∀ H:AH,bT H [i_ 0,i_ 0,.str (bs []),.nl,.nl] [(0,1,i_ t.kind),(1,1,i_ t.idx),(2,1,.str t.name)]=.val (.agg [i_ t.kind,i_ t.idx,.str t.name,.nl,.nl]) H:=fun H=>rfl
 have st1:dQ (.ptr (h.z+2) 0 0) (H.new (.box [i_ 0,i_ 0,.str (bs []),.nl,.nl])) 5 (.agg [i_ t.kind,i_ t.idx,.str t.name,.nl,.nl])=some H1:=by
  rw[gU (v:=.agg [i_ t.kind,i_ t.idx,.str t.name,.nl,.nl]) _ 0 0 5 rfl rfl,<- n0,aE,hH1,n0];rfl
 clear hH1;unfold aJ at hH b6;have b61:=J.g1;unfold aJ at b61;rw[aU t];unfold b87;simp only[go_sem,simprocAttr];rw[<- hH];clear hH;simp only[go_sem,simprocAttr,ad0,ala,b6,hbd,n0,st1,ad7,b61];refine bB (I87r t h) t.L.length o_ ⟨_,0,.nl,[],z_ _,rfl,k_,k_,k_,k_,k_,J,rfl⟩ ?_;clear J J0 b6 b10 b61 k1 n0 n1 st1 H H1 hbd;rintro j fr H ⟨tm,p,V,out,hp,rfl,t2,t3,t14,t15,t16,J,hol⟩;have g3:=J.g3;have nx:=J.nx;unfold afR;simp only[go_sem,simprocAttr,ad9,t15,t16];refine aX (fun hlt=>?_) (fun hge=>?_)
 ·have hlt:p<t.L.length:=o_;obtain⟨l,hl⟩:∃ l,t.L[p]?=some l:=⟨_,a_ hlt⟩
  have hvl:=(l2 l (m_ hl)).len;have ia:=fun h=>aK eC hl .i64 h
  have ell:ba l=.agg [i_ l.c,.ls (l.vars.map bV)]:=rfl;have hw:=aP p o_;obtain⟨H1,hH1⟩:∃ H1:AH,H1=(H.new (.box [i_ 0,.nl])).set H.z (.box [i_ l.c,.ls (l.vars.map bV)]):=⟨_,rfl⟩
  have k1:HK H H1:=by subst hH1;exact HK.new_set _ _ _
  have x1:H1.get H.z=some (.box [i_ l.c,.ls (l.vars.map bV)]):=by subst hH1;exact aH _ _ _
  have st1:dQ (.ptr H.z 0 0) (H.new (.box [i_ 0,.nl])) 2 (ba l)=some H1:=by rw[ell,hH1];simp only[go_sem,simprocAttr]
  have n1:H1.z=H.z+1:=by subst hH1;simp only[alb,ala]
  clear hH1;obtain⟨y,H2,e2,k2,yc,yl,yb,yf⟩:=zN H1 l.vars hvl;have n2:=k2.z;have J2:=J.up (k1.trans k2);obtain⟨V',H3,e3,o3,n3,k3,_⟩:=dD (bytes:=32) (x:=.agg [i_ l.c,y]) (z:=[i_ 0,.nl]) J2.own J2.nx rfl rfl rfl rfl o_ (by decide);have x2:=(k2.kw H.z o_).trans x1;have g31:=(k1.kw (h.z+2) o_).trans g3;have g32:=J2.g3;have g33:=(k3 (h.z+2) o_).trans g32;have bqV:AV.beq V V=true/\V'.cells=[V']/\V'.lies=true:=by
   refine⟨?_,?_⟩
   ·obtain⟨_,⟨rfl,_⟩|⟨_,_,rfl,_⟩⟩:=J.own
    ·rfl
    ·exact Bv _ _ _ _ _
   ·obtain⟨_,⟨rfl,q⟩|⟨_,_,rfl,_⟩⟩:=o3
    ·simp at q
    ·exact⟨rfl,rfl⟩
  have hbd:∀ H:AH,bT H [i_ 0,.nl] [(0,1,i_ l.c),(1,1,y)]=.val (.agg [i_ l.c,y]) H:=by
   intro H;rcases yf with rfl|⟨_,_,_,rfl⟩<;>rfl
  have hlit:∀ H:AH,fY true true 2 [i_ 0,.nl] 1 [(0,2,.agg [i_ l.c,y])] H=.val (.clip [.agg [i_ l.c,y]]) H:=fun H=>rfl
  have bqc:AV.beq (i_ l.c) (i_ l.c)=true:=Bw _ _;have bqa:AV.beq (.clip [.agg [i_ l.c,y]]) (.clip [.agg [i_ l.c,y]])=true:=by simp[AV.beq,AV.beqs,yb]
  simp only[go_sem,simprocAttr,aea,t3,t14,t16,ia,st1,x1,x2,g31,g32,g33,e2,hbd,hlit,e3,bqV.1,bqV.2.1,bqV.2.2,hw];refine⟨j-1,o_,_,p+1,V',out++[.agg [i_ l.c,y]],o_,rfl,q_ t2,q_ t3,q_ t14,q_ t15,k_,⟨?_,?_,aH _ _ _,?_,?_,?_⟩,by simp[hol]⟩
  ·rw[aB o_,k3 _ o_];exact J2.g1
  ·rw[aB o_,k3 _ o_];exact J2.g2
  ·exact cd o3 (by rw[alb];exact e_ _) (fun a q _=>aB o_)
  ·exact⟨by rw[alb];have:=J2.kw.z;omega,fun a q=>by rw[aB o_,k3 a o_];exact J2.kw.kw a q⟩
  ·rw[alb];omega
 ·have:p=t.L.length:=o_;subst this;have g2:=J.g2;have nne:¬ h.z+2=h.z+1:=o_;simp only[go_sem,simprocAttr,ad8,t2,t3,g3,g2];refine⟨rfl,rfl,.inr rfl,[.agg [i_ t.kind,i_ t.idx,.str t.name,V,.nl]],by simp only[go_sem,simprocAttr,r87,t2],⟨V,out,rfl,?_,hol⟩,J.kw.set _ o_⟩;have o:=cd (h':=H.set (h.z+1) (.box [i_ t.kind,i_ t.idx,.str t.name,V,.nl])) J.own (by rw[alb];exact e_ _) (fun a q _=>aB o_);refine⟨o.1,?_⟩;rcases o.2 with q|⟨kk,gg,z1,z2,z3,z4⟩
  ·exact .inl q
  ·exact .inr ⟨kk,gg,z1,z2,z3,o_⟩
end
theorem Rc {kk g n a:Nat}(ha:a<n)(H:AH):cz (.row kk g 2 0 n) H 2 (i_ (a:Int))=.val (.ptr kk g (a*2)) H:=by
 show okV (cond (Nat.beq 2 2) (aD (aD (some a) fun m=>cond (Nat.blt m n) (some m) none) fun n=>some (.ptr kk g (Nat.mul (Nat.add 0 n) 2))) none) H=_;have hb:Nat.blt a n=true:=Nat.ble_eq_true_of_le ha;rw[aI,hb];show OpR.val (.ptr kk g (Nat.mul (Nat.add 0 a) 2)) H=_;congr 2;show(0+a)*2=a*2;rw[z_]
theorem Rb {kk g a:Nat}{h:AH}{out:List AV}{x:AV}(hk:h.get kk=some (.row g 2 true (flat out) 0))(ho:∀ x∈out,x.cells.length=2/\x.isAgg=true)(ha:a<out.length)(h1:x.cells.length=2)(h3:x.lies=true):
  dQ (.ptr kk g (a*2)) h 2 x=some (h.set kk (.row g 2 true (flat (out.set a x)) 0)):=by
 have hfl:=kZ (fun y hy=>(ho y hy).1);rw[gU _ _ _ _ h3 h1,hk,aI];show aD (cond (and (Nat.beq g g) (and (Nat.ble 0 (a*2)) (Nat.ble (a*2+len x.cells) (len (flat out))))) (some (fD.row g 2 true (setR (a*2) x.cells (flat out)) 0)) none) _=_;rw[eX,bH,bH,fh (show a*2+x.cells.length<=(flat out).length by rw[hfl,h1];omega),rP h1 (fun y hy=>(ho y hy).1) ha];rfl
theorem UA {out:List AV}(ho:∀ x∈out,x.cells.length=2/\x.isAgg=true){a:Nat}{x:AV}(h1:x.cells.length=2)(h2:x.isAgg=true):∀ y∈out.set a x,y.cells.length=2/\y.isAgg=true:=by
 intro y hy;rcases List.mem_or_eq_of_mem_set hy with q|q
 ·exact ho y q
 ·rw[q];exact⟨h1,h2⟩
