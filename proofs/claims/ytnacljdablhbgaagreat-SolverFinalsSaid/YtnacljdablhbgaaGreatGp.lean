/- SolverFinals: Assign, by the program (no condition). -/
import Derived.Test.YtnacljdablhbgaaGreatGo
namespace Go.Proofs.YtnacljdablhbgaaGreat
open Go.AG
attribute [local go_sem] dR eZ fW fX fe dU dk cI iI dT cJ di iK
def MI:List Nat:=[148,103,87]
def EZ:List Nat:=[67,113,114,161,84,162,90,87,88]
def nz (K:aG):Prop:=∀f,f∈EZ->∀c a rc h,K (.fn f [] c) a rc h=none
noncomputable def cT (K:aG)(m:Nat):aG:=nN K EG 60000 niL MI m
theorem cT_ok {K:aG}(hk:bM CI K)(m:Nat):bM CI (cT K m):=zw hEG hk 60000 niL MI m
theorem yw {K:aG}(hK:nz K){f:Nat}(hf:f∈EZ:=by decide)(hn:niL.contains f=false:=by decide)(ho:MI.contains f=false:=by decide):Rn (cT K) f:=zu (hK f hf) hn ho
theorem TN {K:aG}{m f:Nat}{c a a':List AV}{h h1:AH}(hK:nz K){nt:Nat}{rs:List bF}{body:aw}{P:AV->AH->Prop}(hcf:EF.cf f=some ⟨nt,rs,body⟩)(e0:iP a h=(a',h1))
  (hR:R (cT K m) 60000 [.code body] (IQ rs fun v h2=>∃v' h3,gT v h2=(v',h3)/\P v' h3) .normal ⟨bn (a'++c),⟨[],.no,none,f⟩⟩ h1)
  (hf:f∈EZ:=by decide) (hn:niL.contains f=false:=by decide) (ho:MI.contains f=false:=by decide):∃v h',cT K (m+1) (.fn f [] c) a .no h=some (.ret v,.no,h')/\P v h':=by
 obtain⟨v,h2,e,v',h3,e3,hP⟩:=nw (cfG hcf) (tw f) hR;have st:cT K (m+1) (.fn f [] c) a .no h=cond (MI.contains f) (dZ EG (cT K m) 60000 f (a'++c) .no h1) (tX (dZ EG (cT K m) 60000 f (a'++c) .no h1)):=
  qS e0 (show fidIn niL (.fn f [] c)=false from hn) (hK f hf c a' .no h1)
 exact⟨v',h3,by rw[st,ho,cond_false,e,nW e3],hP⟩
theorem Yn {K:aG}{m f:Nat}{c a a':List AV}{h h1:AH}(hK:nz K){nt:Nat}{rs:List bF}{body:aw}{P:AV->AH->Prop}(hcf:EF.cf f=some ⟨nt,rs,body⟩)(e0:iP a h=(a',h1))
  (hR:R (cT K m) 60000 [.code body] (IQ rs P) .normal ⟨bn (a'++c),⟨[],.no,none,f⟩⟩ h1)
  (hf:f∈EZ:=by decide) (hn:niL.contains f=false:=by decide) (ho:MI.contains f=true:=by decide):∃v h',cT K (m+1) (.fn f [] c) a .no h=some (.ret v,.no,h')/\P v h':=by
 obtain⟨v,h2,e,hP⟩:=nw (cfG hcf) (tw f) hR;have st:cT K (m+1) (.fn f [] c) a .no h=cond (MI.contains f) (dZ EG (cT K m) 60000 f (a'++c) .no h1) (tX (dZ EG (cT K m) 60000 f (a'++c) .no h1)):=
  qS e0 (show fidIn niL (.fn f [] c)=false from hn) (hK f hf c a' .no h1)
 exact⟨v,h2,by rw[st,ho,cond_true,e],hP⟩
structure KT (K:aG)(vals:List LL):Prop where
 r115:∀l,PL l->∀h,K (.fn 115 [] []) [aK l,.ls (vals.map aK)] .no h=some (.ret (.tup [aK (dX l vals).1,wt (dX l vals).2]),.no,h)
 r128:∀(k j:Int) h,K (.fn 128 [] []) [wt k,wt j] .no h=some (.ret (wt (aV k j)),.no,h)
theorem CS {K:aG}{f:Nat}{c a a':List AV}{h h1:AH}{v:AV}(e0:iP a h=(a',h1))(e:K (.fn f [] c) a' .no h1=some (.ret v,.no,h1))(hv:gT v h1=(v,h1))(m:Nat)(hn:niL.contains f=false:=by decide):cT K m (.fn f [] c) a .no h=some (.ret v,.no,h1):=
 ur e0 (show fidIn niL (.fn f [] c)=false from hn) e hv
theorem yU (h:AH)(l:List LV)(hl:l.length<=50):∃y h',dO h 2 true [wt 0,wt 0] 16 .nl (.ls (l.map encV))=some (y,h')/\HK h h'/\y.cells=[y]/\y.lies=true/\AV.beq y y=true/\(y=.nl∨∃k g n,y=.row k g 2 0 n):=by
 have e0:dO h 2 true [wt 0,wt 0] 16 .nl (.ls (l.map encV))=List.casesOn (l.map encV) (mX .nl h) fun y ys=>kQ .nl h 2 true 16 (y::ys):=by
  show aq (cond (fl 2 (l.map encV)) (some (l.map encV)) none) (fun xs=>cond (and (iu xs) (Nat.beq (len ([wt 0,wt 0]:List AV)) 2)) _ _)=_;rw[om ct];show cond (and (iu (l.map encV)) true) _ _=_;rw[mK (fun _=>rfl)];rfl
 cases l with
 |nil=>exact⟨.nl,h,e0,HK.refl _,rfl,rfl,rfl,.inl rfl⟩
 |cons a l=>
  have hneed:need 0 ((a::l).map encV).length 16=true:=by
   show and (Nat.ble ((2*(0+((a::l).map encV).length)+1000)*16) 140737488355328) (Nat.ble (0+((a::l).map encV).length) 9223372036854775807)=true;simp only[waa]at *;rw[gj (by omega),gj (by omega)];rfl
  refine⟨.row h.z 0 2 0 ((a::l).map encV).length,h.new (.row 0 2 true (flat ((a::l).map encV)) 0),?_,HK.new _ _,rfl,rfl,jF _ _ _ _ _,.inr ⟨_,_,_,rfl⟩⟩;rw[e0];show cond (need 0 (len ((a::l).map encV)) 16) (some (AV.row h.z 0 2 0 (len ((a::l).map encV)),h.new (.row 0 2 true (flat ((a::l).map encV)) 0))) none=_;rw[bH,hneed];rfl
structure Zu (t:T)(V:AV)(h0 h:AH)(out:List AV):Prop where
 g1:h.get h0.z=some (.box (au t))
 g2:h.get (h0.z+1)=some (.box [wt 0,wt 0,.str (bs []),.nl,.nl])
 g3:h.get (h0.z+2)=some (.box [wt t.kind,wt t.i,.str t.name,V,.nl])
 own:Own (h0.z+3) 2 true h V out
 kw:HK h0 h
 nx:h0.z+3<=h.z
theorem Zu.up {t:T}{V:AV}{h0 h h':AH}{out:List AV}(J:Zu t V h0 h out)(k:HK h h'):Zu t V h0 h' out:=by
 have:=J.nx;exact⟨(k.kw _ (by omega)).trans J.g1,(k.kw _ (by omega)).trans J.g2,(k.kw _ (by omega)).trans J.g3,bp J.own k.z (fun a _ q=>k.kw a q),J.kw.trans k,Nat.le_trans J.nx k.z⟩
def I87r (t:T)(h0:AH)(j:Nat)(fr:AF)(h:AH):Prop:=∃tm p V out,p+j=t.L.length/\fr=⟨tm,⟨[],.no,none,87⟩⟩/\nth tm 2=.ptr (h0.z+1) 0 0/\nth tm 3=.ptr (h0.z+2) 0 0/\nth tm 14=.ls (t.L.map aK)/\nth tm 15=wt (t.L.length:Int)/\nth tm 16=wt (p:Int)/\Zu t V h0 h out/\out.length=p
theorem c87r {K:aG}(hK:nz K)(m:Nat)(t:T)(h:AH)(hq:Lq t):
  ∃v h',cT K (m+1) (.fn 87 [] []) [enc t] .no h=some (.ret v,.no,h')/\(∃V out,v=.agg [wt t.kind,wt t.i,.str t.name,V,.nl]/\Own h.z 2 true h' V out/\out.length=t.L.length)/\HK h h':=by
 obtain⟨l1,l2⟩:=hq.ls;refine Yn hK cf87 (ae (aP _ _) (aB _)) ?_;simp only[wab];have J0:=kS.init t h;obtain⟨H,hH⟩:∃H:AH,H=((h.new (.box (au t))).new (.box [wt 0,wt 0,.str (bs []),.nl,.nl])):=⟨_,rfl⟩
 rw[<-hH]at J0;have n0:H.z=h.z+2:=by subst hH;simp only[ci]
 have b6:=J0.b6;have b10:=J0.b10;obtain⟨H1,hH1⟩:∃H1:AH,H1=(H.new (.box [wt 0,wt 0,.str (bs []),.nl,.nl])).set (h.z+2) (.box [wt t.kind,wt t.i,.str t.name,.nl,.nl]):=⟨_,rfl⟩
 have k1:HK H H1:=by subst hH1;exact(HK.new _ _).set _ (by omega)
 have n1:H1.z=h.z+3:=by subst hH1;simp only[co,ci,n0]
 have J:Zu t .nl h H1 []:=⟨(k1.kw _ (by omega)).trans b6,(k1.kw _ (by omega)).trans b10,by subst hH1;exact aC _ _ _,fD _ _ _ _,J0.kw.trans k1,by omega⟩;have hbd:∀H:AH,cP H [wt 0,wt 0,.str (bs []),.nl,.nl] [(0,1,wt t.kind),(1,1,wt t.i),(2,1,.str t.name)]=.val (.agg [wt t.kind,wt t.i,.str t.name,.nl,.nl]) H:=fun H=>rfl
 have st1:cR (.ptr (h.z+2) 0 0) (H.new (.box [wt 0,wt 0,.str (bs []),.nl,.nl])) 5 (.agg [wt t.kind,wt t.i,.str t.name,.nl,.nl])=some H1:=by
  rw[eF (v:=.agg [wt t.kind,wt t.i,.str t.name,.nl,.nl]) _ 0 0 5 rfl rfl,<-n0,aE,hH1,n0];rfl
 clear hH1;unfold au at hH b6;have b61:=J.g1;unfold au at b61;rw[aA t];unfold b87;simp only[go_sem,simprocAttr];rw[<-hH];clear hH;simp only[go_sem,simprocAttr,UH,ci,b6,hbd,n0,st1,UI,b61];refine bD (I87r t h) t.L.length (by omega) ⟨_,0,.nl,[],wac _,rfl,by simp only[go_sem,simprocAttr],by simp only[go_sem,simprocAttr],by simp only[go_sem,simprocAttr],by simp only[go_sem,simprocAttr],by simp only[go_sem,simprocAttr],J,rfl⟩ ?_;clear J J0 b6 b10 b61 k1 n0 n1 st1 H H1 hbd;rintro j fr H ⟨tm,p,V,out,hp,rfl,t2,t3,t14,t15,t16,J,hol⟩;have g3:=J.g3;have nx:=J.nx;unfold VT;simp only[go_sem,simprocAttr,UK,t15,t16];refine bj (fun hlt=>?_) (fun hge=>?_)
 ·have hlt:p<t.L.length:=by omega
  obtain⟨l,hl⟩:∃l,t.L[p]?=some l:=⟨_,wO hlt⟩
  obtain⟨_,hvl⟩:=l2 l (wS hl);have ia:=fun h=>aN dj hl .i64 h
  have ell:aK l=.agg [wt l.c,.ls (l.v.map encV)]:=rfl;have hw:=aM p (by omega);obtain⟨H1,hH1⟩:∃H1:AH,H1=(H.new (.box [wt 0,.nl])).set H.z (.box [wt l.c,.ls (l.v.map encV)]):=⟨_,rfl⟩
  have k1:HK H H1:=by subst hH1;exact HK.new_set _ _ _
  have x1:H1.get H.z=some (.box [wt l.c,.ls (l.v.map encV)]):=by subst hH1;exact aC _ _ _
  have st1:cR (.ptr H.z 0 0) (H.new (.box [wt 0,.nl])) 2 (aK l)=some H1:=by rw[ell,hH1];simp only[go_sem,simprocAttr]
  have n1:H1.z=H.z+1:=by subst hH1;simp only[co,ci]
  clear hH1;obtain⟨y,H2,e2,k2,yc,yl,yb,yf⟩:=yU H1 l.v (by omega);have n2:=k2.z;have J2:=J.up (k1.trans k2);obtain⟨V',H3,e3,o3,n3,k3,_⟩:=cV (bytes:=32) (x:=.agg [wt l.c,y]) (z:=[wt 0,.nl]) J2.own J2.nx rfl rfl rfl rfl (by omega) (by decide);have x2:=(k2.kw H.z (by omega)).trans x1;have g31:=(k1.kw (h.z+2) (by omega)).trans g3;have g32:=J2.g3;have g33:=(k3 (h.z+2) (by omega)).trans g32;have bqV:AV.beq V V=true/\V'.cells=[V']/\V'.lies=true:=by
   refine⟨?_,?_⟩
   ·obtain⟨_,⟨rfl,_⟩|⟨_,_,rfl,_⟩⟩:=J.own
    ·rfl
    ·exact jF _ _ _ _ _
   ·obtain⟨_,⟨rfl,q⟩|⟨_,_,rfl,_⟩⟩:=o3
    ·simp at q
    ·exact⟨rfl,rfl⟩
  have hbd:∀H:AH,cP H [wt 0,.nl] [(0,1,wt l.c),(1,1,y)]=.val (.agg [wt l.c,y]) H:=by
   intro H;rcases yf with rfl|⟨_,_,_,rfl⟩<;>rfl
  have hlit:∀H:AH,iS true true 2 [wt 0,.nl] 1 [(0,2,.agg [wt l.c,y])] H=.val (.clip [.agg [wt l.c,y]]) H:=fun H=>rfl
  have bqc:AV.beq (wt l.c) (wt l.c)=true:=Jh _ _;have bqa:AV.beq (.clip [.agg [wt l.c,y]]) (.clip [.agg [wt l.c,y]])=true:=by simp[AV.beq,AV.beqs,yb]
  simp only[go_sem,simprocAttr,UL,t3,t14,t16,ia,st1,x1,x2,g31,g32,g33,e2,hbd,hlit,e3,bqV.1,bqV.2.1,bqV.2.2,hw];refine⟨j-1,by omega,_,p+1,V',out++[.agg [wt l.c,y]],by omega,rfl,by simp only[go_sem,simprocAttr,t2],by simp only[go_sem,simprocAttr,t3],by simp only[go_sem,simprocAttr,t14],by simp only[go_sem,simprocAttr,t15],by simp only[go_sem,simprocAttr],⟨?_,?_,aC _ _ _,?_,?_,?_⟩,by simp[hol]⟩
  ·rw[an (by omega),k3 _ (by omega)];exact J2.g1
  ·rw[an (by omega),k3 _ (by omega)];exact J2.g2
  ·exact bp o3 (by rw[co];exact Fv _) (fun a q _=>an (by omega))
  ·exact⟨by rw[co];have:=J2.kw.z;omega,fun a q=>by rw[an (by omega),k3 a (by omega)];exact J2.kw.kw a q⟩
  ·rw[co];omega
 ·have:p=t.L.length:=by omega
  subst this;have g2:=J.g2;have nne:¬h.z+2=h.z+1:=by omega
  simp only[go_sem,simprocAttr,UJ,t2,t3,g3,g2];refine⟨rfl,rfl,.inr rfl,[.agg [wt t.kind,wt t.i,.str t.name,V,.nl]],by simp only[go_sem,simprocAttr,r87,t2],⟨V,out,rfl,?_,hol⟩,J.kw.set _ (by omega)⟩;have o:=bp (h':=H.set (h.z+1) (.box [wt t.kind,wt t.i,.str t.name,V,.nl])) J.own (by rw[co];exact Fv _) (fun a q _=>an (by omega));refine⟨o.1,?_⟩;rcases o.2 with q|⟨kk,gg,z1,z2,z3,z4⟩
  ·exact .inl q
  ·exact .inr ⟨kk,gg,z1,z2,z3,by omega⟩
attribute [local go_sem] dR eZ fW fX fe dU dk cI iI dT cJ di iK
theorem JS {kk g n a:Nat}(ha:a<n)(H:AH):cz (.row kk g 2 0 n) H 2 (wt (a:Int))=.val (.ptr kk g (a*2)) H:=by
 show okV (cond (Nat.beq 2 2) (aq (aq (some a) fun m=>cond (Nat.blt m n) (some m) none) fun n=>some (.ptr kk g (Nat.mul (Nat.add 0 n) 2))) none) H=_;have hb:Nat.blt a n=true:=Nat.ble_eq_true_of_le ha;rw[aF,hb];show OpR.val (.ptr kk g (Nat.mul (Nat.add 0 a) 2)) H=_;congr 2;show(0+a)*2=a*2;rw[wac]
theorem JR {kk g a:Nat}{h:AH}{out:List AV}{x:AV}(hk:h.get kk=some (.row g 2 true (flat out) 0))(ho:∀x∈out,x.cells.length=2/\x.isAgg=true)(ha:a<out.length)(h1:x.cells.length=2)(h3:x.lies=true):
  cR (.ptr kk g (a*2)) h 2 x=some (h.set kk (.row g 2 true (flat (out.set a x)) 0)):=by
 have hfl:=gY (fun y hy=>(ho y hy).1);rw[eF _ _ _ _ h3 h1,hk,aF];show aq (cond (and (Nat.beq g g) (and (Nat.ble 0 (a*2)) (Nat.ble (a*2+len x.cells) (len (flat out))))) (some (eI.row g 2 true (setR (a*2) x.cells (flat out)) 0)) none) _=_;rw[fN,bH,bH,gj (show a*2+x.cells.length<=(flat out).length by rw[hfl,h1];omega),nY h1 (fun y hy=>(ho y hy).1) ha];rfl
theorem Nj {out:List AV}(ho:∀x∈out,x.cells.length=2/\x.isAgg=true){a:Nat}{x:AV}(h1:x.cells.length=2)(h2:x.isAgg=true):∀y∈out.set a x,y.cells.length=2/\y.isAgg=true:=by
 intro y hy;rcases List.mem_or_eq_of_mem_set hy with q|q
 ·exact ho y q
 ·rw[q];exact⟨h1,h2⟩
def mP (vals:List LL)(t:T)(_d:Int):Option (T×Bool×Int):=if t.L.any (erL vals) then none else some (.mk t.kind t.i t.name (t.L.map fun l=>(dX l vals).1) [],false,0)
theorem aed (vals:List LL):W0 (mP vals):=by
 intro t d o b wg e;unfold mP at e;split at e
 ·cases e
 ·cases e;exact Int.le_refl 0
mutual
theorem Jd (vals:List LL):∀(t:T) (d:Int),bld (mP vals) t d=if wX vals t then none else some (pP vals t,0)
 |.mk k i nm ls ks,d=>by
  rw[bld,wX,pP];by_cases h:ls.any (erL vals)=true
  ·have hs:mP vals (.mk k i nm ls ks) d=none:=by unfold mP;rw[wae (show(T.mk k i nm ls ks).L.any (erL vals)=true from h)]
   rw[hs,h];rfl
  ·have hs:mP vals (.mk k i nm ls ks) d=some (.mk k i nm (ls.map fun l=>(dX l vals).1) [],false,0):=by unfold mP;rw[wad (show ¬(T.mk k i nm ls ks).L.any (erL vals)=true from h)];rfl
   rw[hs];simp only;rw[CY vals k 0 ks d];have h':ls.any (erL vals)=false:=by simpa using h
   rw[h',Bool.false_or];cases hb:tB vals ks with
   |true=>simp
   |false=>simp[T.kind,T.i,T.name,T.L]
theorem CY (vals:List LL)(k:Int):∀(j:Nat) (ks:List T) (d:Int),blds (mP vals) k j ks d=if tB vals ks then none else some (yx vals ks,0)
 |_,[],_=>by rw[blds,tB,yx];rfl
 |j,t::l,d=>by
  rw[blds,tB,yx,Jd vals t,CY vals k (j+1) l d];cases h1:wX vals t<;>cases h2:tB vals l<;>simp
end
section
variable {K:aG}{vals:List LL}
theorem c114 (hK:nz K)(kt:KT K vals)(m px:Nat)(l:LL)(hl:PL l)(h:AH)(g:h.get px=some (.box [.ls (vals.map aK)]))(hpl:px<h.z):
  ∃h',cT K (m+1) (.fn 114 [] [.ptr px 0 0]) [aK l] .no h=some (.ret (.tup [aK (dX l vals).1,wt (dX l vals).2]),.no,h')/\HK h h':=by
 have key:∃v h',cT K (m+1) (.fn 114 [] [.ptr px 0 0]) [aK l] .no h=some (.ret v,.no,h')/\v=.tup [aK (dX l vals).1,wt (dX l vals).2]/\HK h h':=by
  refine TN hK cf114 (ae (tA _ _) (aB _)) ?_;obtain⟨H,hH⟩:∃H:AH,H=(h.new (.box [wt l.c,.ls (l.v.map encV)])).new (.box [wt 0,.nl]):=⟨_,rfl⟩
  have k0:HK h H:=by subst hH;exact(HK.new _ _).add _
  have g2:H.get h.z=some (.box [wt l.c,.ls (l.v.map encV)]):=by subst hH;rw[aJ (by rw[ci];omega),aE]
  have g3:H.get (h.z+1)=some (.box [wt 0,.nl]):=by subst hH;rw[<-ci h (.box [wt l.c,.ls (l.v.map encV)]),aE]
  have gn:=(k0.kw px hpl).trans g;have el:∀l:LL,aK l=.agg [wt l.c,.ls (l.v.map encV)]:=fun _=>rfl
  have e115:=fun H=>CS (K:=K) (ae (tA _ _) (ae (kG _ _) (aB _))) (kt.r115 l hl H) (AA _ _ _) m
  rw[el l]at e115 ⊢;rw[el (dX l vals).1]at e115;unfold b114;simp only[go_sem,simprocAttr,ci];rw[<-hH];clear hH;simp only[go_sem,simprocAttr,SJ,g2,g3,gn,e115];exact⟨rfl,rfl,.inr rfl,[.agg [wt (dX l vals).1.c,.ls ((dX l vals).1.v.map encV)],wt (dX l vals).2],by simp only[go_sem,simprocAttr,r114],_,_,bG (ae (tA (dX l vals).1 _) (ae (ba _ _ _) (aB _))),rfl,k0.set _ (by omega)⟩
 obtain⟨_,h',e,rfl,k⟩:=key;exact⟨h',e,k⟩
structure Zv (t:T)(b7:Nat)(V:AV)(h0 h:AH)(cur:List AV):Prop where
 g5:h.get (h0.z+1)=some (.box [wt 0,wt 0,.str (bs []),.nl,.nl])
 g7:h.get b7=some (.box [wt t.kind,wt t.i,.str t.name,V,.nl])
 own:Own (h0.z+2) 2 true h V cur
 low:∀a g n,V=.row a g 2 0 n->a<b7
 kw:HK h0 h
 nx:b7+1<=h.z
 lo:h0.z+2<=b7
theorem Zv.up {t:T}{b7:Nat}{V:AV}{h0 h h':AH}{cur:List AV}(J:Zv t b7 V h0 h cur)(k:HK h h'):Zv t b7 V h0 h' cur:=by
 have:=J.nx;have:=J.lo;exact⟨(k.kw _ (by omega)).trans J.g5,(k.kw _ (by omega)).trans J.g7,bp J.own k.z (fun a _ q=>k.kw a q),J.low,J.kw.trans k,Nat.le_trans J.nx k.z,J.lo⟩
def I162 (vals:List LL)(t:T)(pr b7:Nat)(V:AV)(h0:AH)(j:Nat)(fr:AF)(h:AH):Prop:=∃tm p cur,p+j=t.L.length/\fr=⟨tm,⟨[],.no,none,162⟩⟩/\nth tm 2=.ptr pr 0 0/\nth tm 5=.ptr (h0.z+1) 0 0/\nth tm 7=.ptr b7 0 0/\nth tm 15=.ls (t.L.map aK)/\nth tm 16=wt (t.L.length:Int)/\nth tm 17=wt (p:Int)/\
 Zv t b7 V h0 h cur/\cur.length=t.L.length/\cur.take p=((t.L.take p).map fun l=>(dX l vals).1).map aK/\(t.L.take p).any (erL vals)=false
theorem c162 (hK:nz K)(kt:KT K vals)(m pr px:Nat)(t:T)(d:Int)(h:AH)(hq:Lq t)(gr:h.get pr=some (.box [.fn 114 [] [.ptr px 0 0]]))(gx:h.get px=some (.box [.ls (vals.map aK)]))(lr:pr<h.z)(lx:px<h.z):
  ∃o h',cT K (m+3) (.fn 162 [] [.ptr pr 0 0]) [enc t,wt d] .no h=some (o,.no,h')/\HK h h'/\UB (fun _ _=>True) (fun _=>False) (.ifc 198 (wt 15)) 0 (mP vals t d) o h':=by
 have hr:Rn (cT K) 162:=yw hK;obtain⟨l1,l2⟩:=hq.ls;have key:=hr (m+2) [.ptr pr 0 0] _ _ .no h _ _ _ _ (fun o rc h'=>rc=.no/\HK h h'/\UB (fun _ _=>True) (fun _=>False) (.ifc 198 (wt 15)) 0 (mP vals t d) o h') cf162 (ae (aP t _) (ae (ba .i64 d _) (aB _))) (by
  have J0:=kS.init t h;obtain⟨H,hH⟩:∃H:AH,H=((h.new (.box (au t))).new (.box [wt 0,wt 0,.str (bs []),.nl,.nl])):=⟨_,rfl⟩
  rw[<-hH]at J0;have n0:H.z=h.z+2:=by subst hH;simp only[ci]
  have b6:=J0.b6;have b10:=J0.b10;obtain⟨_,H1,e1,⟨V,out,rfl,o1,hol⟩,k1⟩:=c87r hK (m+1) t H hq;have n1:=k1.z;obtain⟨H2,hH2⟩:∃H2:AH,H2=(H1.new (.box [wt 0,wt 0,.str (bs []),.nl,.nl])).set H1.z (.box [wt t.kind,wt t.i,.str t.name,V,.nl]):=⟨_,rfl⟩
  have k2:HK H1 H2:=by subst hH2;exact HK.new_set _ _ _
  have x2:H2.get H1.z=some (.box [wt t.kind,wt t.i,.str t.name,V,.nl]):=by subst hH2;exact aC _ _ _
  have n2:H2.z=H1.z+1:=by subst hH2;simp only[co,ci]
  have st2:cR (.ptr H1.z 0 0) (H1.new (.box [wt 0,wt 0,.str (bs []),.nl,.nl])) 5 (.agg [wt t.kind,wt t.i,.str t.name,V,.nl])=some H2:=by
   rw[eF (v:=.agg [wt t.kind,wt t.i,.str t.name,V,.nl]) _ 0 0 5 rfl rfl,aE,hH2];rfl
  clear hH2;have J:Zv t H1.z V h H2 out:=⟨((k1.trans k2).kw _ (by omega)).trans b10,x2,bp (base:=h.z+2) (by
    refine⟨o1.1,?_⟩;rcases o1.2 with q|⟨kk,gg,z1,z2,z3,z4⟩
    ·exact .inl q
    ·exact .inr ⟨kk,gg,z1,z2,z3,by omega⟩) k2.z (fun a _ q=>k2.kw a q),by
    intro a g n e;rcases o1.2 with⟨q,_⟩|⟨kk,gg,z1,z2,z3,z4⟩
    ·rw[q]at e;cases e
    ·rw[z1]at e;injection e with e;omega,(J0.kw.trans k1).trans k2,by omega,by omega⟩
  have b62:=((k1.trans k2).kw h.z (by omega)).trans b6;unfold au at hH b6 b62;rw[aA t]at e1 ⊢;unfold b162;simp only[go_sem,simprocAttr];rw[<-hH];clear hH;simp only[go_sem,simprocAttr,Rf,ci,b6,e1,st2,Rg,b62];refine bD (I162 vals t pr H1.z V h) t.L.length (by omega) ⟨_,0,out,wac _,rfl,by simp only[go_sem,simprocAttr],by simp only[go_sem,simprocAttr],by simp only[go_sem,simprocAttr],by simp only[go_sem,simprocAttr],by simp only[go_sem,simprocAttr],by simp only[go_sem,simprocAttr],J,hol,rfl,rfl⟩ ?_;clear J J0 b6 b10 b62 st2 x2 o1 hol e1;generalize H1.z=b7 at *;clear k1 k2 n1 n2 n0 H H1 H2;rintro j fr H ⟨tm,p,cur,hp,rfl,t2,t5,t7,t15,t16,t17,J,hcl,hct,hny⟩;have nx:=J.nx;have lo:=J.lo;have kn:=J.kw.z;have gr':=(J.kw.kw pr lr).trans gr;unfold Ua;simp only[go_sem,simprocAttr,Ri,t16,t17];refine bj (fun hlt=>?_) (fun hge=>?_)
  ·have hlt:p<t.L.length:=by omega
   obtain⟨l,hl⟩:∃l,t.L[p]?=some l:=⟨_,wO hlt⟩
   have hpl:=l2 l (wS hl);have ia:=fun h=>aN dj hl .i64 h
   have ell:∀l:LL,aK l=.agg [wt l.c,.ls (l.v.map encV)]:=fun _=>rfl
   have hw:=aM p (by omega);obtain⟨H1,hH1⟩:∃H1:AH,H1=(H.new (.box [wt 0,.nl])).set H.z (.box [wt l.c,.ls (l.v.map encV)]):=⟨_,rfl⟩
   have k1:HK H H1:=by subst hH1;exact HK.new_set _ _ _
   have x1:H1.get H.z=some (.box [wt l.c,.ls (l.v.map encV)]):=by subst hH1;exact aC _ _ _
   have st1:cR (.ptr H.z 0 0) (H.new (.box [wt 0,.nl])) 2 (aK l)=some H1:=by rw[ell,hH1];simp only[go_sem,simprocAttr]
   have n1:H1.z=H.z+1:=by subst hH1;simp only[co,ci]
   clear hH1;have gr1:=(k1.kw pr (by omega)).trans gr';obtain⟨H2,e2,k2⟩:=c114 hK kt (m+1) px l hpl H1 ((k1.kw px (by omega)).trans ((J.kw.kw px lx).trans gx)) (by omega);have n2:=k2.z;obtain⟨H3,hH3⟩:∃H3:AH,H3=(H2.new (.box [wt 0,.nl])).set H2.z (.box [wt (dX l vals).1.c,.ls ((dX l vals).1.v.map encV)]):=⟨_,rfl⟩
   have k3:HK H2 H3:=by subst hH3;exact HK.new_set _ _ _
   have x3:H3.get H2.z=some (.box [wt (dX l vals).1.c,.ls ((dX l vals).1.v.map encV)]):=by subst hH3;exact aC _ _ _
   have st3:cR (.ptr H2.z 0 0) (H2.new (.box [wt 0,.nl])) 2 (aK (dX l vals).1)=some H3:=by rw[ell,hH3];simp only[go_sem,simprocAttr]
   have n3:H3.z=H2.z+1:=by subst hH3;simp only[co,ci]
   clear hH3;have k123:=(k1.trans k2).trans k3;have J3:=J.up k123;have g73:=J3.g7;have hany:(t.L.take (p+1)).any (erL vals)=((t.L.take p).any (erL vals)||erL vals l):=iY hl;rw[ell l]at e2;by_cases he:(dX l vals).2=0
   ·have he':decide ((dX l vals).2=0)=true:=HE he;have hel:erL vals l=false:=by unfold erL;simp[he]
    obtain⟨kk,g,rfl,q2,q3,q4⟩:∃kk g,V=.row kk g 2 0 cur.length/\H3.get kk=some (.row g 2 true (flat cur) 0)/\kk<H3.z/\h.z+2<=kk:=by
     rcases J3.own.2 with⟨_,q⟩|q
     ·rw[q]at hcl;simp at hcl;omega
     ·exact q
    have hkb:=J3.low _ _ _ rfl;have ib:=fun H=>JS (kk:=kk) (g:=g) (n:=cur.length) (a:=p) (by omega) H
    have st4:=JR (x:=aK (dX l vals).1) (a:=p) q2 J3.own.1 (by omega) (dj _) rfl;rw[ell (dX l vals).1]at st4;simp only[go_sem,simprocAttr,FY,t2,t7,t15,t17,ia,st1,FZ,gr1,x1,e2,st3,Ga,he',g73,x3,ib,st4,hw];refine⟨j-1,by omega,_,p+1,cur.set p (aK (dX l vals).1),by omega,rfl,by simp only[go_sem,simprocAttr,t2],by simp only[go_sem,simprocAttr,t5],by simp only[go_sem,simprocAttr,t7],by simp only[go_sem,simprocAttr,t15],by simp only[go_sem,simprocAttr,t16],by simp only[go_sem,simprocAttr],⟨?_,?_,⟨Nj J3.own.1 (dj _) rfl,.inr ⟨kk,g,by rw[List.length_set],aC _ _ _,by rw[co];exact q3,q4⟩⟩,J3.low,?_,?_,lo⟩,by rw[List.length_set];exact hcl,?_,?_⟩
    ·rw[an (by omega)];exact J3.g5
    ·rw[an (by omega)];exact g73
    ·exact J3.kw.set _ (by omega)
    ·rw[co];exact J3.nx
    ·rw[nR _ _ _ (by omega),hct,mA hl,List.map_append];rfl
    ·rw[hany,hny,hel];rfl
   ·have he':decide ((dX l vals).2=0)=false:=HD he;have h15:(dX l vals).2=15:=(repR_err l vals).resolve_left he;have hel:erL vals l=true:=by unfold erL;simp[he]
    have e88:=fun h=>c88 (cl:=cT K) (yw hK) (m+1) 15 h
    rw[h15]at e2;have d15:decide ((15:Int)=0)=false:=rfl;simp only[go_sem,simprocAttr,FY,t2,t15,t17,ia,st1,FZ,gr1,x1,e2,st3,Ga,e88];refine jm ⟨rfl,J3.kw,?_⟩;have:t.L.any (erL vals)=true:=List.any_eq_true.2 ⟨l,wS hl,hel⟩;unfold mP;rw[this];rfl
  ·have:p=t.L.length:=by omega
   subst this;rw[List.take_length]at hct hny;rw[List.take_of_length_le (by omega)]at hct;subst hct;have g7:=J.g7;have g5:=J.g5;have hVc:V.cells=[V]/\V.lies=true:=by
    rcases J.own.2 with⟨q,_⟩|⟨kk,g,q,_⟩<;>rw[q]<;>exact⟨rfl,rfl⟩
   simp only[go_sem,simprocAttr,Rh,t5,t7,g7,g5];have o:=bp (h':=H.set (h.z+1) (.box [wt t.kind,wt t.i,.str t.name,V,.nl])) J.own (by rw[co];exact Fv _) (fun a q _=>an (by omega));obtain⟨H3,e3,n3,k3⟩:=IP (l:=[]) t.kind t.i t.name o (fun a g n e=>by have:=J.low a g n e;exact this) (fD b7 _ _ _) (by omega);refine iv (.inr rfl) (vs:=[.agg [wt t.kind,wt t.i,.str t.name,V,.nl],.bool false]) (by simp only[go_sem,simprocAttr,r162,t5]) ⟨_,_,bG (ae e3 (ae (jd _ _) (aB _))),rfl,⟨by rw[n3,co];exact J.kw.z,fun a ha=>by rw[k3 a (by omega),an (by omega)];exact J.kw.kw a ha⟩,?_⟩;unfold mP;rw[hny];exact .inl ⟨rfl,trivial⟩)
 obtain⟨o,rc,h',e,rfl,q⟩:=key;exact⟨o,h',e,q⟩
end
attribute [local go_sem] dR eZ fW fX fe dU dk cI iI dT cJ di iK
section
variable {K:aG}{vals:List LL}
theorem c113 (hK:nz K)(kt:KT K vals)(m px:Nat)(t:T)(h:AH)(hm:size t+5<=m)(h50:size t<=50000)(hq:Lq t)(gx:h.get px=some (.box [.ls (vals.map aK)]))(lx:px<h.z):
  ∃h',cT K (m+1) (.fn 113 [] []) [enc t,.fn 114 [] [.ptr px 0 0]] .no h=some (.ret (.tup [enc (fj vals t).1,wt (fj vals t).2]),.no,h')/\HK h h':=by
 have hr:Rn (cT K) 113:=yw hK;have can:∀h,eT (.fn 114 [] [.ptr px 0 0]) h=(.fn 114 [] [.ptr px 0 0],h):=fun h=>by rw[jD];simp[AV.ip,AV.norm]
 have key:=hr m [] _ _ .no h _ _ _ _ (fun o rc h'=>rc=.no/\o=.ret (.tup [enc (fj vals t).1,wt (fj vals t).2])/\HK h h') cf113 (ae (aP t _) (ae (can _) (aB _))) (by
  simp only[wab];obtain⟨m,rfl⟩:∃m',m=m'+2:=⟨m-2,by omega⟩
  obtain⟨H,hH⟩:∃H:AH,H=(((h.new (.box (au t))).new (.box [.fn 114 [] [.ptr px 0 0]])).new (.box [wt 0,wt 0,.str (bs []),.nl,.nl])).new (.box [wt 0]):=⟨_,rfl⟩
  have k0:HK h H:=by subst hH;exact(((HK.new _ _).add _).add _).add _
  have n0:H.z=h.z+4:=by subst hH;simp only[ci]
  have g2:H.get h.z=some (.box (au t)):=by subst hH;rw[aJ (by simp only[ci];omega),aJ (by simp only[ci];omega),aJ (by simp only[ci];omega),aE]
  have g3:H.get (h.z+1)=some (.box [.fn 114 [] [.ptr px 0 0]]):=by
   subst hH;rw[aJ (by simp only[ci];omega),aJ (by simp only[ci];omega),<-ci h (.box (au t)),aE]
  have g4:H.get (h.z+1+1)=some (.box [wt 0,wt 0,.str (bs []),.nl,.nl]):=by
   subst hH;have:h.z+1+1=((h.new (.box (au t))).new (.box [.fn 114 [] [.ptr px 0 0]])).z:=by simp only[ci]
   rw[aJ (by simp only[ci];omega),this,aE]
  have g5:H.get (h.z+1+1+1)=some (.box [wt 0]):=by
   subst hH;have:h.z+1+1+1=(((h.new (.box (au t))).new (.box [.fn 114 [] [.ptr px 0 0]])).new (.box [wt 0,wt 0,.str (bs []),.nl,.nl])).z:=by simp only[ci]
   rw[this,aE]
  obtain⟨o,H2,e2,k2,hb2⟩:=acC (cl:=cT K) (F:=162) (cap:=[.ptr (h.z+1) 0 0]) (P:=fun _ H=>H.get (h.z+1)=some (.box [.fn 114 [] [.ptr px 0 0]])/\H.get px=some (.box [.ls (vals.map aK)]))
   (Ov:=fun _=>False) (pv:=.ifc 198 (wt 15)) (w:=h.z) (mv:=3) (Bp:=h.z+4) (Good:=fun t _=>Lq t) (step:=mP vals)
   (yw hK) (fun m k j h=>CS (ae (ba _ _ _) (ae (ba _ _ _) (aB _))) (kt.r128 k j h) rfl m) (by simp[AV.ip,AV.norm]) (by simp[AV.beqs,AV.beq]) (aed vals) (fun _ _ h _=>h) (by omega)
   (fun n h1 h' q k=>⟨(k _ (by omega)).trans q.1,(k _ (by omega)).trans q.2⟩)
   (fun t d a x g e=>g.kid e)
   (fun m t d n H hm g _ hd0 hd1 p hB=>by
    obtain⟨m,rfl⟩:∃m',m=m'+3:=⟨m-3,by omega⟩
    obtain⟨o,H',e,k,hv⟩:=c162 hK kt m (h.z+1) px t d H g p.1 p.2 (by omega) (by omega);refine⟨o,H',e,k.x _,?_⟩;cases hs:mP vals t d with
    |none=>rw[hs]at hv;exact hv
    |some q=>
     obtain⟨r,b,wg⟩:=q;rw[hs]at hv;rcases hv with⟨rfl,_⟩|⟨_,q⟩
     ·exact .inl ⟨rfl,(k.kw _ (by omega)).trans p.1,(k.kw _ (by omega)).trans p.2⟩
     ·exact q.elim)
   (m+2) t 0 0 H (by omega) h50 (Int.le_refl 0) (by omega) hq ⟨g3,(k0.kw px lx).trans gx⟩ (by omega)
  have n2:=k2.z;rw[Jd]at hb2;have g42:=(k2.kw (h.z+1+1) (by omega) (by omega)).trans g4;have g52:=(k2.kw (h.z+1+1+1) (by omega) (by omega)).trans g5;have k02:HK h H2:=⟨by omega,fun k q=>by rw[k2.kw k (by omega) (by omega)];exact k0.kw k q⟩;have bf:∀H:AH,gU H 1 (.fn 114 [] [.ptr px 0 0])=.val (.ptr H.z 0 0) (H.new (.box [.fn 114 [] [.ptr px 0 0]])):=fun H=>jE rfl
  have hbf:∀H':AH,cP H' [.nilf] [(0,1,.fn 162 [] [.ptr (h.z+1) 0 0])]=.val (.agg [.fn 162 [] [.ptr (h.z+1) 0 0]]) H':=fun H'=>rfl
  have nne:¬h.z+1+1+1=h.z+1+1:=by omega
  have nne2:¬h.z+1+1=h.z+1+1+1:=by omega
  unfold au at hH g2;rw[aA t]at e2 ⊢;unfold b113;simp only[go_sem,simprocAttr,bf,ci];rw[<-hH];clear hH;unfold fj;cases hE:wX vals t with
  |true=>
   rw[hE]at hb2;replace hb2:o=.pan (.ifc 198 (wt 15)):=hb2;subst hb2;simp only[go_sem,simprocAttr,GD,GF,hbf,g2,e2];refine Un (c161p (yw hK) (yw hK) m (h.z+1+1) (h.z+1+1+1) 15 0 H2 ⟨_,_,_,_,_,g42⟩ g52 (by omega)) (vs:=[.agg [wt 0,wt 0,.str (bs []),.nl,.nl],wt 15]) (by simp only[go_sem,simprocAttr,aeH,nne2]) ⟨_,_,bG (ae (pU _) (ae (ba _ _ _) (aB _))),rfl,rfl,(k02.set _ (by omega)).set _ (by omega)⟩
  |false=>
   rw[hE]at hb2;rcases (show(o=.ret (enc (pP vals t))/\_)∨(o=.pan (.ifc 198 (wt 15))/\False) from hb2) with⟨rfl,_⟩|⟨_,q⟩
   case inr=>exact q.elim
   have hs2:=aQ g42 (pP vals t);simp only[go_sem,simprocAttr,GD,GF,hbf,g2,e2,hs2,g52,nne];refine Hr (.inr rfl) (c161r (yw hK) (m+1) _ _ _) (vs:=[.agg (au (pP vals t)),wt 0]) (by simp only[go_sem,simprocAttr,aeH,nne2,au]) ⟨_,_,bG (ae (by rw[<-cN];exact aP _ _) (ae (ba _ _ _) (aB _))),rfl,rfl,(k02.set _ (by omega)).set _ (by omega)⟩)
 obtain⟨o,rc,h',e,rfl,rfl,k⟩:=key;exact⟨h',e,k⟩
theorem c67 (hK:nz K)(kt:KT K vals)(m:Nat)(t:T)(h:AH)(hm:size t+6<=m)(h50:size t<=50000)(hq:Lq t):
  ∃v h',cT K (m+1) (.fn 67 [] []) [enc t,.ls (vals.map aK)] .no h=some (.ret v,.no,h')/\v=.tup [enc (fj vals t).1,wt (fj vals t).2]/\HK h h':=by
 obtain⟨m,rfl⟩:∃m',m=m'+1:=⟨m-1,by omega⟩
 refine TN hK cf67 (ae (aP _ _) (ae (kG _ _) (aB _))) ?_;simp only[wab];obtain⟨H,hH⟩:∃H:AH,H=((h.new (.box (au t))).new (.box [.ls (vals.map aK)])).new (.box [wt 0,wt 0,.str (bs []),.nl,.nl]):=⟨_,rfl⟩
 have k0:HK h H:=by subst hH;exact((HK.new _ _).add _).add _
 have n0:H.z=h.z+3:=by subst hH;simp only[ci]
 have g2:H.get h.z=some (.box (au t)):=by subst hH;rw[aJ (by simp only[ci];omega),aJ (by simp only[ci];omega),aE]
 have g3:H.get (h.z+1)=some (.box [.ls (vals.map aK)]):=by
  subst hH;rw[aJ (by simp only[ci];omega),<-ci h (.box (au t)),aE]
 have g4:H.get (h.z+1+1)=some (.box [wt 0,wt 0,.str (bs []),.nl,.nl]):=by
  subst hH;have:h.z+1+1=((h.new (.box (au t))).new (.box [.ls (vals.map aK)])).z:=by simp only[ci]
  rw[this,aE]
 obtain⟨H2,e2,k2⟩:=c113 hK kt m (h.z+1) t H (by omega) h50 hq g3 (by omega);have hst:=aQ ((k2.kw (h.z+1+1) (by omega)).trans g4) (fj vals t).1;have bl:∀H:AH,gU H 1 (.ls (vals.map aK))=.val (.ptr H.z 0 0) (H.new (.box [.ls (vals.map aK)])):=fun H=>jE rfl
 unfold au at hH g2;rw[aA t]at e2 ⊢;unfold b67;simp only[go_sem,simprocAttr,bl,ci];rw[<-hH];clear hH;simp only[go_sem,simprocAttr,aag,g2,e2,hst];exact⟨rfl,rfl,.inr rfl,[.agg (au (fj vals t).1),wt (fj vals t).2],by simp only[go_sem,simprocAttr,r67,au],_,_,bG (ae (by rw[<-cN];exact aP _ _) (ae (ba _ _ _) (aB _))),rfl,(k0.trans k2).set _ (by omega)⟩
end
