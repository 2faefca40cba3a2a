/- SolverFinals: filling, by the reference (no condition). -/
import Derived.Test.YtnacljdablhbgaaGreatGf
namespace Go.Proofs.YtnacljdablhbgaaGreat
open Go.AG
attribute [local go_sem] cM
def aep:aw:=(.seq (.seq (.region [⟨(some 13),(.mv (.c (wt 0))),none⟩]) (.block 0 (.loop AJ))) (.seq (.region [⟨(some 82),(.mv (.t 12)),none⟩,⟨(some 83),(.faddr 4 1 false (.t 10)),none⟩,⟨none,(.store 1 (.t 83) (.t 82)),none⟩]) (.seq (.seq (.region [⟨(some 16),(.mv (.c (wt 0))),none⟩]) (.block 2 (.loop AI))) (.seq (.region [⟨(some 109),(.load true 5 (.t 10)),none⟩,⟨(some 110),(.mv (.t 3)),none⟩,⟨(some 111),(.call (.c (.fn 149 [] [])) [(.t 109),(.t 110)]),none⟩,⟨none,(.store 5 (.t 8) (.t 111)),none⟩,⟨(some 9),(.mv (.c (wt 0))),none⟩]) .ret))))
theorem As:∀(N:Nat) (l:List Int),l.Nodup->(∀j∈l,0<=j/\j<(N:Int))->l.length<=N
 |0,l,_,h=>by
  cases l with
  |nil=>simp
  |cons a l=>have:=h a (by simp);omega
 |N+1,l,hn,h=>by
  by_cases hm:(N:Int)∈l
  ·have h1:=As N (l.erase (N:Int)) (hn.erase _) (fun j hj=>by
    have:=(hn.mem_erase_iff).1 hj;have:=h j this.2;omega)
   rw[List.length_erase_of_mem hm]at h1;omega
  ·have:=As N l hn (fun j hj=>by
    have h1:=h j hj;have:j≠(N:Int):=fun e=>hm (e▸hj)
    omega)
   omega
theorem Rw.lo {lo lo' hi:Nat}{h:AH}{V:AV}{l:List T}(r:Rw lo hi h V l)(hl:lo'<=lo):Rw lo' hi h V l:=by
 rcases r with q|⟨k,g,q1,q2,q3,q4⟩
 ·exact .inl q
 ·exact .inr ⟨k,g,q1,q2,by omega,q4⟩
theorem Ln (l:List Int):iu (l.map dF)=true:=mK (fun _=>rfl) l
theorem Bw (l:List Int):∀x∈l.map dF,x.cells.length=1/\x.isAgg=false:=by
 intro x hx;obtain⟨t,_,rfl⟩:=List.mem_map.1 hx;exact⟨rfl,rfl⟩
theorem Bh (l:List Int)(h:AH)(hl:l.length<100000):∃V h',dO h 1 false [wt 0] 8 .nl (.ls (l.map dF))=some (V,h')/\Own h.z 1 false h' V (l.map dF)/\h.z<=h'.z/\∀k,k<h.z->h'.get k=h.get k:=by
 have e0:dO h 1 false [wt 0] 8 .nl (.ls (l.map dF))=List.casesOn (l.map dF) (mX .nl h) fun y ys=>kQ .nl h 1 false 8 (y::ys):=by
  show aq (cond (fl 1 (l.map dF)) (some (l.map dF)) none) (fun xs=>cond (and (iu xs) (Nat.beq (len ([wt 0]:List AV)) 1)) _ _)=_;rw[om uD];show cond (and (iu (l.map dF)) true) _ _=_;rw[Ln];rfl
 cases l with
 |nil=>exact⟨.nl,h,e0,fD _ _ _ _,Fv _,fun _ _=>rfl⟩
 |cons a l=>
  have hneed:need 0 ((a::l).map dF).length 8=true:=by
   show and (Nat.ble ((2*(0+((a::l).map dF).length)+1000)*8) 140737488355328) (Nat.ble (0+((a::l).map dF).length) 9223372036854775807)=true;simp only[waa]at *;rw[gj (by omega),gj (by omega)];rfl
  refine⟨.row h.z 0 1 0 ((a::l).map dF).length,h.new (.row 0 1 false (flat ((a::l).map dF)) 0),?_,⟨Bw _,.inr ⟨h.z,0,rfl,aE _ _,by rw[ci];omega,Fv _⟩⟩,by rw[ci];omega,fun k hk=>aJ (by omega)⟩;rw[e0];show cond (need 0 (len ((a::l).map dF)) 8) (some (AV.row h.z 0 1 0 (len ((a::l).map dF)),h.new (.row 0 1 false (flat ((a::l).map dF)) 0))) none=_;rw[bH,hneed];rfl
theorem vp {base:Nat}{h:AH}{V:AV}{l:List Int}(o:Own base 1 false h V (l.map dF)):∃h',eT V h=(.ls (l.map dF),h')/\h'.z=h.z/\∀k,k<base->h'.get k=h.get k:=by
 obtain⟨o1,⟨rfl,e⟩|⟨k,g,rfl,q2,q3,q4⟩⟩:=o
 ·rw[List.map_eq_nil_iff]at e;subst e;exact⟨h,oC h,rfl,fun _ _=>rfl⟩
 ·have hc:chunk false 1 (l.map dF).length ((flat (l.map dF)).drop (0*1))=some (l.map dF):=by
   rw[Nat.zero_mul,List.drop_zero];exact kA (fun _=>rfl) o1
  have:nD (.row k g 1 0 (l.map dF).length) h=fS (.row k g 1 0 (l.map dF).length) h:=rfl;refine⟨h.set k (eI.row g 1 false (flat (l.map dF)) (max 0 ((0+(l.map dF).length)*1))),?_,co _ _ _,fun a ha=>an (by omega)⟩;rw[eT,this,Cj q2 hc];show(AV.ls (AV.ip _),_)=_;rw[El]
theorem vD {t:T}{c:Option Int}(h:eP t 0 c≠none):c≠none/\¬lH t:=by
 obtain⟨f,hf⟩:=waf.1 h;exact(dn hf).2
theorem c101 {K:aG}(hK:bW K)(kc:KC K)(kd:KD K)(ke:KE K){P:LL->Prop}(ms:List MV)(hms:ms.length<=8)(hmv:∀m∈ms,m.known=true->size m.val<=60/\Ok P ms.length m.val 0)(w:Nat):∀n,n<=1000->acJ K P ms w (n+20000) n:=by
 intro n;induction n with
 |zero=>intro _ t d above c h hs hd0 hd1 hok hab hab2 hn;have:=cG t;omega
 |succ n ihn=>
  intro hn1 t d above c h hs hd0 hd1 hok hab hab2 hn hc hw;have ih:=ihn (by omega);rw[show n+1+20000=(n+20000)+1 by omega];refine cm hK cf101 (ae (mj _ _) (ae (aP _ _) (ae (vN _ _) (ae (dh _ _ _ _) (aB _))))) ?_;show R (cS K (n+20000)) 60000 [.code ae8] (IQ Dn (MO w h (ge ms (n+1) t above c))) .normal _ _;simp only[wab];have J0:=kS.init t h;have hsp:=mo _ t (Fv _);obtain⟨okh,oka⟩:=sw _ t d (Fv _) hok;have hal:=As _ above hab hab2;obtain⟨_,_⟩:True/\True:=⟨trivial,trivial⟩;have fsz:=xX ms (fun m hm hk=>(hmv m hm hk).1);have c148':=fun H=>c148 hK (size t) t (n+20000) H (Fv _) (by omega) (by omega)
  have fE:∀f:Int,ge ms (n+1) t above (some f)=_:=fun f=>by unfold ge;rw[wad (by simp)]
  revert c148' fE;generalize hhd:(aD t).1=hd at hsp okh;generalize hag:(aD t).2=args at hsp oka;intro c148' fE;rw[aA t]at c148' ⊢;unfold ae8;unfold au at J0;simp only[go_sem,simprocAttr];revert J0;generalize ((h.new (.box [wt t.kind,wt t.i,.str t.name,.ls (t.L.map aK),.ls (t.K.map enc)])).new (.box [wt 0,wt 0,.str (bs []),.nl,.nl]))=H;intro J0;have b6:=J0.b6;have b8:=J0.b10;unfold au at b6;have nx:=J0.nx;have hcH:=hc.kw (J0.kw.kw w hw);cases c with
  |none=>
   obtain⟨f,gw⟩:=hcH;rw[mC];simp only[go_sem,simprocAttr,ci,zi,gw,b8];exact Il (by simp only[go_sem,simprocAttr]) (by simp only[go_sem,simprocAttr]) (aC _ _ _) ((J0.kw.x w).set _ (.inl (by omega))) ⟨f,by rw[an (by omega)];exact gw⟩
  |some f=>
   have gw:=hcH.2.2;obtain⟨_,h2,e2,V11,rfl,o11,k2⟩:=c148' H;have n2:=k2.z;have hst:=aQ (h:=h2.new (.box [wt 0,wt 0,.str (bs []),.nl,.nl])) (k:=h2.z) (aE _ _) hd;obtain⟨H3,hH3⟩:∃H3:AH,H3=(h2.new (.box [wt 0,wt 0,.str (bs []),.nl,.nl])).set h2.z (.box (au hd)):=⟨_,rfl⟩
   have k3:HK h2 H3:=by subst hH3;exact HK.new_set _ _ _
   have x3:H3.get h2.z=some (.box (au hd)):=by subst hH3;exact aC _ _ _
   have n3:H3.z=h2.z+1:=by subst hH3;simp only[co,ci]
   rw[<-hH3]at hst;clear hH3;have J:rE w h2.z (au hd) args V11 h H3:=⟨(k3.kw _ (by omega)).trans ((k2.kw _ (by omega)).trans b8),x3,((Rw.of o11).lo nx).kw (fun a _ q=>k3.kw a q),((J0.kw.trans k2).trans k3).x w,by omega,by omega,hw⟩;have hc3:Cn H3 w (some f):=hcH.kw ((k3.kw w (by omega)).trans (k2.kw w (by omega)));have lk:hd.K.length<=60/\aW hd.K+1=size hd:=by
    obtain⟨k',i',nm',ls',ks'⟩:=hd;have:=bE ks';simp only[T.K,size]at hsp ⊢;omega
   have la:=bE args;have hkids:∀(a:Nat) x,hd.K[a]?=some x->∃d:Int,size x<=60/\0<=d/\d+size x<=1000/\Ok P ms.length x d/\60*(9-above.length)+size x<=n:=by
    intro a x hx;have h1:=ck hx;obtain⟨k',i',nm',ls',ks'⟩:=hd;have hb:=fO k' a;unfold Ok at okh;have:=rV okh.2.2.2.2 hx;rw[wac]at this;exact⟨d+aV k' a,by omega,by omega,by omega,this,by omega⟩
   have hargs:∀(a:Nat) x,args[a]?=some x->∃d:Int,size x<=60/\0<=d/\d+size x<=1000/\Ok P ms.length x d/\60*(9-above.length)+size x<=n:=by
    intro a x hx;have h1:=ck hx;have:=cG hd;exact⟨d,by omega,by omega,by omega,oka x (wS hx),by omega⟩
   have fin:∀tm H e c',nth tm 8=.ptr (h.z+1) 0 0->nth tm 9=wt e->H.get (h.z+1)=some (.box [wt 0,wt 0,.str (bs []),.nl,.nl])->HKx w h H->Cn H w c'->ge ms (n+1) t above (some f)=(tZ,e,c')->
     IQ Dn (MO w h (ge ms (n+1) t above (some f))) .ret ⟨tm,⟨[],.no,none,101⟩⟩ H:=by
    intro tm H e c' q1 q2 q3 q4 q5 q6;rw[q6];exact Il q1 q2 q3 q4 q5
   have unk:cd ms hd=none->∀tm,pQ ms above w (h.z+1) h2.z V11 tm->nth tm 12=.nl->R (cS K (n+20000)) 60000 [.code aep,.code rI] (IQ Dn (MO w h (ge ms (n+1) t above (some f)))) .normal ⟨tm,⟨[],.no,none,101⟩⟩ H3:=by
    intro hkn tm L t12;have fE':=fE f;rw[hkn]at fE';simp only at fE';unfold aep;simp only[go_sem,simprocAttr];refine Od ih hd above (some f) V11 args h h2.z lk.1 hkids hab hab2 ?_ ?_ _ H3 ⟨by simp only[go_sem,simprocAttr,L.t0],by simp only[go_sem,simprocAttr,L.t2],by simp only[go_sem,simprocAttr,L.t3],by simp only[go_sem,simprocAttr,L.t8],by simp only[go_sem,simprocAttr,L.t10],by simp only[go_sem,simprocAttr,L.t11]⟩ (by simp only[go_sem,simprocAttr,t12]) (by simp only[go_sem,simprocAttr]) J hc3
    ·clear t12 L tm;intro tm H V out c1 L t12 J1 o hc1 hsq;rw[hsq]at fE';have hV:=wH o;have t10:=L.t10;have g10:=J1.g10;have jnx:=J1.nx;have jlo:=J1.lo;unfold au at g10;simp only[go_sem,simprocAttr,t10,t12,g10,hV.2.1,hV.2.2];refine Oc hK ih (.mk hd.kind hd.i hd.name hd.L out) above c1 V11 args h h2.z _ (by omega) hargs hab hab2 ?_ ?_ _ _ ⟨by simp only[go_sem,simprocAttr,L.t0],by simp only[go_sem,simprocAttr,L.t2],by simp only[go_sem,simprocAttr,L.t3],by simp only[go_sem,simprocAttr,L.t8],by simp only[go_sem,simprocAttr,L.t10],by simp only[go_sem,simprocAttr,L.t11]⟩ (by simp only[go_sem,simprocAttr]) (J1.put _) (Bx.own _ _ _ _ (bp o (by rw[co];exact Fv _) (fun a q _=>an (by omega)))) (hc1.kw (an (by omega)))
     ·clear t12 L t10 tm;intro tm H cells out2 c2 L J2 bx hc2 hsq2;rw[hsq2]at fE';have t3:=L.t3;have t8:=L.t8;have t10:=L.t10;obtain⟨a1,a2,a3,a4,a5,rfl⟩:=bx.five;have g10:=J2.g10;obtain⟨H4,ec,n4,k4⟩:=bx.can;have fE2:ge ms (n+1) t above (some f)=(gB (.mk hd.kind hd.i hd.name hd.L out) out2,0,jf (gB (.mk hd.kind hd.i hd.name hd.L out) out2) c2):=by rw[fE'];try simp
      have sz:size (gB (.mk hd.kind hd.i hd.name hd.L out) out2)<=1000000000000:=by
       have:=fsz (n+1) t above (some f) hs (by rw[fE2]);rw[fE2]at this;have:(n+1+1)*300000<=1002*300000:=Nat.mul_le_mul_right _ (by omega);simp only at *;omega
      rw[fE2];revert bx ec sz;generalize gB (.mk hd.kind hd.i hd.name hd.L out) out2=y;intro bx ec sz;have nx2:=J2.nx;have lo2:=J2.lo;have e149:cS K (n+20000) (.fn 149 [] []) [.agg [a1,a2,a3,a4,a5],.ptr w 0 0] .no H=cS K (n+20000) (.fn 149 [] []) [enc y,.ptr w 0 0] .no H4:=
       vZ (ae ec (ae (dh _ _ _ _) (aB _))) (ae (aP _ _) (ae (dh _ _ _ _) (aB _)))
      obtain⟨_,H5,e5,rfl,k5,c5⟩:=c149 hK kd ke (n+19999) y sz w c2 H4 (hc2.kw (k4 w (by omega))) (by omega);rw[e5]at e149;have J5:=(J2.low (by omega) k4).up k5;have hs5:=aQ J5.g8 y;simp only[go_sem,simprocAttr,t3,t8,t10,g10,e149,hs5];exact Ts (by simp only[go_sem,simprocAttr,t8]) (by simp only[go_sem,simprocAttr]) (aC _ _ _) (J5.kw.set _ (.inl (by omega))) (c5.kw (an (by omega)))
     ·intro tm H e c' q1 q2 q3 q4 q5 q6 q7;simp only[go_sem,simprocAttr];refine fin tm H e c' q1 q2 q3 q4 q5 ?_;rw[fE',q7];simp[q6]
    ·intro tm H e c' q1 q2 q3 q4 q5 q6 q7;simp only[go_sem,simprocAttr];refine fin tm H e c' q1 q2 q3 q4 q5 ?_;rw[fE',q7];simp[q6]
   have kno:∀(a:Nat) m,hd.i=(a:Int)->ms[a]?=some m->m.known=true->cd ms hd=some m.val->∀tm,pQ ms above w (h.z+1) h2.z V11 tm->nth tm 12=.nl->R (cS K (n+20000)) 60000 [.code rI] (IQ Dn (MO w h (ge ms (n+1) t above (some f)))) .normal ⟨tm,⟨[],.no,none,101⟩⟩ H3:=by
    intro a m hia hma hmk hkn tm L t12;have fE':=fE f;rw[hkn]at fE';simp only at fE';obtain⟨sv,okv⟩:=hmv m (wS hma) hmk;simp only[go_sem,simprocAttr,rI];refine Ob (ms:=ms) hd above V11 args h h2.z (by omega) _ H3 ⟨by simp only[go_sem,simprocAttr,L.t0],by simp only[go_sem,simprocAttr,L.t2],by simp only[go_sem,simprocAttr,L.t3],by simp only[go_sem,simprocAttr,L.t8],by simp only[go_sem,simprocAttr,L.t10],by simp only[go_sem,simprocAttr,L.t11]⟩ (by simp only[go_sem,simprocAttr,t12]) (by simp only[go_sem,simprocAttr]) J ?_ ?_
    ·clear L t12 tm;intro tm L t12 hni;rw[wad hni]at fE';have t0:=L.t0;have t2:=L.t2;have t3:=L.t3;have t8:=L.t8;have t10:=L.t10;have jnx:=J.nx;have jlo:=J.lo;obtain⟨V20,Ha,ea,oa,na,ka⟩:=Bh above H3 (by omega);obtain⟨V21,Hb,eb,ob,nb,kb,_⟩:=cV (bytes:=8) (x:=wt hd.i) (z:=[wt 0]) oa na rfl rfl rfl rfl (by rw[waa];omega) (by decide);have bqa:AV.beq V20 V20=true:=by
      obtain⟨_,⟨rfl,_⟩|⟨_,_,rfl,_⟩⟩:=oa
      ·rfl
      ·exact jF _ _ _ _ _
     have ga:Ha.get h2.z=some (.box (au hd)):=(ka _ (by omega)).trans x3;have gb:Hb.get h2.z=some (.box (au hd)):=(kb _ (by omega)).trans ga;have g10:=x3;unfold au at ga gb g10;have ob':Own H3.z 1 false Hb V21 ((above++[hd.i]).map dF):=by rw[List.map_append];exact ob
     obtain⟨Hc,ec,nc,kc'⟩:=vp ob';have hnd:(above++[hd.i]).Nodup:=by
      rw[List.nodup_append];refine⟨hab,by simp,?_⟩;intro x hx y hy;simp at hy;subst hy;exact fun e=>hni (e▸hx)
     have hlt:a<ms.length:=(wah.1 hma).1;have hrg:∀j∈above++[hd.i],0<=j/\j<(ms.length:Int):=by
      intro j hj;rcases List.mem_append.1 hj with q|q
      ·exact hab2 j q
      ·simp at q;subst q;rw[hia];omega
     have hal2:=As _ _ hnd hrg;rw[List.length_append]at hal2;have spos:=cG t;obtain⟨_,h5,e5,rfl,k5,c5⟩:=ih m.val 0 (above++[hd.i]) (some f) Hc (by omega) (Int.le_refl 0) (by omega) okv hnd hrg (by rw[List.length_append];simp only[List.length_cons,List.length_nil]at *;omega) (hc3.kw (by rw[kc' w (by omega),kb w (by omega),ka w (by omega)])) (by omega);have e101:cS K (n+20000) (.fn 101 [] []) [.ls (ms.map cD),enc m.val,V21,.ptr w 0 0] .no Hb=cS K (n+20000) (.fn 101 [] []) [.ls (ms.map cD),enc m.val,.ls ((above++[hd.i]).map dF),.ptr w 0 0] .no Hc:=
      vZ (ae (mj _ _) (ae (aP _ _) (ae ec (ae (dh _ _ _ _) (aB _))))) (ae (mj _ _) (ae (aP _ _) (ae (vN _ _) (ae (dh _ _ _ _) (aB _)))))
     rw[e5]at e101;have n5:=k5.z;have hia':=fun H=>aN ie hma .i64 H
     rw[<-hia]at hia';obtain⟨q1,hq1⟩:∃q1,q1=ge ms n m.val (above++[hd.i]) (some f):=⟨_,rfl⟩
     have hst6:=aQ (h:=h5.new (.box [wt 0,wt 0,.str (bs []),.nl,.nl])) (k:=h5.z) (aE _ _) q1.1;obtain⟨H6,hH6⟩:∃H6:AH,H6=(h5.new (.box [wt 0,wt 0,.str (bs []),.nl,.nl])).set h5.z (.box (au q1.1)):=⟨_,rfl⟩
     have k6:HK h5 H6:=by subst hH6;exact HK.new_set _ _ _
     have x6:H6.get h5.z=some (.box (au q1.1)):=by subst hH6;exact aC _ _ _
     have n6:H6.z=h5.z+1:=by subst hH6;simp only[co,ci]
     rw[<-hH6]at hst6;clear hH6;have Ja:=J.low na (fun a q=>ka a (by omega));have Jb:=Ja.low nb (fun a q=>kb a (by omega));have Jc:=Jb.low (by omega) (fun a q=>kc' a (by omega));have J6:tS w h2.z h5.z (au hd) args V11 q1.1 h H6:=⟨(Jc.up k5).up (k6.x w),x6,by omega,by omega⟩;have sq1:=fsz n m.val (above++[hd.i]) (some f) (by omega);have okq:=rQ ms (fun m hm hk=>(hmv m hm hk).2) n m.val (above++[hd.i]) (some f);rw[<-hq1]at e101 c5 sq1 fE';simp only[<-hq1]at okq;have c6:=c5.kw (k6.kw w (by omega));have g8:=J6.J.g8;have x6':=x6;unfold au at x6';have n300:(n+1)*300000<=1001*300000:=Nat.mul_le_mul_right _ (by omega);simp only[go_sem,simprocAttr,HX,HY,t0,t2,t3,t10,ea,eb,g10,ga,gb,HZ,hia',sJ,e101,hst6,Ia];by_cases he:q1.2.1=0
     ·have he':decide (q1.2.1=0)=true:=HE he;obtain⟨_,H7,e7,rfl,k7,c7⟩:=acD hK kd ke (n+19999) q1.1 0 (by have:=sq1 he;omega) w q1.2.2 H6 c6 (by omega);rw[aA q1.1]at e7;have J7:=J6.up k7;simp only[go_sem,simprocAttr,he',Ib,t3,x6',e7,Ic];refine Oa ih above (eP q1.1 0 q1.2.2) V11 args h h2.z h5.z (au hd) q1.1 (by omega) hargs hab hab2 ?_ ?_ _ _ ⟨by simp only[go_sem,simprocAttr,t0],by simp only[go_sem,simprocAttr,t2],by simp only[go_sem,simprocAttr,t3],by simp only[go_sem,simprocAttr,t8],by simp only[go_sem,simprocAttr,t10],by simp only[go_sem,simprocAttr,L.t11]⟩ (by simp only[go_sem,simprocAttr,t12]) (by simp only[go_sem,simprocAttr]) (by simp only[go_sem,simprocAttr]) J7 c7
      ·clear L t12 t0 t2 t3 t8 t10 tm;intro tm H8 V8 out c8 L t12 t21 J8 o8 hc8 hsq;rw[hsq]at fE';simp only[he,ne_eq,not_true_eq_false,if_false]at fE';have hok8:c8≠none->Ok P ms.length q1.1 d/\¬lH q1.1/\∀x∈out,Ok P ms.length x d/\¬lH x:=by
        intro hcn;obtain⟨f8,hf8⟩:=waf.1 hcn;have hsq2:(cj (fun x c=>ge ms n x above c) args (eP q1.1 0 q1.2.2)).2.2=some f8:=by rw[hsq];exact hf8
        obtain⟨g1,g2⟩:=vD (eS (da ms n above) _ _ _ hsq2);obtain⟨f1,hf1⟩:=waf.1 g1;refine⟨rL _ _ _ hd0 (okq f1 0 (Int.le_refl 0) okv he hf1),g2,fun x hx=>?_⟩;obtain⟨b,hb,rfl⟩:=wag.1 hx;obtain⟨t',c',f',y1,y2,y3,y4⟩:=nU (da ms n above) _ _ f8 (by rw[hsq]) hsq2 b out[b] (by rw[hsq];exact wO hb);rw[y4];exact⟨rQ ms (fun m hm hk=>(hmv m hm hk).2) n t' above c' f' d hd0 (oka t' (wS y1)) y2 y3,sI ms n t' above c' f' y2 y3⟩
       have l8:=lZ args (eP q1.1 0 q1.2.2) (by rw[hsq]);rw[hsq]at l8;simp only at l8;simp only[go_sem,simprocAttr,Ie];refine NZ hK kc kd ke above c8 V11 args h h2.z h5.z (au hd) q1.1 out d hd0 (by have:=cG t;omega) (by omega) (by omega) ?_ _ H8 V8 ⟨by simp only[go_sem,simprocAttr,L.t0],by simp only[go_sem,simprocAttr,L.t2],by simp only[go_sem,simprocAttr,L.t3],by simp only[go_sem,simprocAttr,L.t8],by simp only[go_sem,simprocAttr,L.t10],by simp only[go_sem,simprocAttr,L.t11]⟩ (by simp only[go_sem,simprocAttr,t12]) (by simp only[go_sem,simprocAttr,t21]) J8 (Ro.of o8) hc8 hok8;clear L t12 t21 tm;intro tm H9 V9 v9 l9 c9 L t12 t21 J9 o9 hc9 hbt;rw[hbt]at fE';have t3:=L.t3;have t8:=L.t8;have g21:=J9.g21;have bsz:=mH out q1.1 c8;rw[hbt]at bsz;have nx9:=J9.nx;have lo9:=J9.lo;have lo8:=J9.J.lo;obtain⟨Hd,ed,nd,kd'⟩:=o9.can;have e74:cS K (n+20000) (.fn 74 [] []) [enc v9,V9] .no H9=cS K (n+20000) (.fn 74 [] []) [enc v9,.ls (l9.map enc)] .no Hd:=
        vZ (ae (aP _ _) (ae ed (aB _))) (ae (aP _ _) (ae (iL _ _) (aB _)))
       obtain⟨_,He,e9,rfl,ke'⟩:=c74 hK (n+19999) v9 l9 Hd (by simp only at bsz;omega);rw[e9,aA v9]at e74;have ne:=ke'.z;have Je:=(J9.low (by omega) kd').up (ke'.x w);have ce:Cn He w c9:=hc9.kw (by rw[ke'.kw w (by omega),kd' w (by omega)]);have fE2:ge ms (n+1) t above (some f)=(gB v9 l9,0,eP (gB v9 l9) 0 c9):=by rw[fE'];try simp
       have sz:size (gB v9 l9)<=1000000000000:=by
        have:=fsz (n+1) t above (some f) hs (by rw[fE2]);rw[fE2]at this;have:(n+1+1)*300000<=1002*300000:=Nat.mul_le_mul_right _ (by omega);simp only at *;omega
       rw[fE2];revert e74 sz;generalize gB v9 l9=y;intro e74 sz;have hs9:=aQ Je.g21 y;have Jf:=Je.put y;obtain⟨Hf,hHf⟩:∃Hf:AH,Hf=He.set h5.z (.box (au y)):=⟨_,rfl⟩
       rw[<-hHf]at hs9 Jf;have cf:Cn Hf w c9:=by subst hHf;exact ce.kw (an (by omega))
       clear hHf;obtain⟨_,Hg,eg,rfl,kg,cg⟩:=acD hK kd ke (n+19999) y 0 sz w c9 Hf cf (by have:=Jf.nx;omega);rw[aA y]at eg;have Jg:=Jf.up kg;have xf:=Jf.g21;have xg:=Jg.g21;have gg8:=Jg.J.g8;unfold au at g21 xf xg;simp only[go_sem,simprocAttr,Ig,t3,t12,t21,g21,e74,hs9,Ih,xf,eg,Ii,xg,t8,gg8];exact Ts (q:=(y,0,eP y 0 c9)) (by simp only[go_sem,simprocAttr,t8]) (by simp only[go_sem,simprocAttr]) (aC _ _ _) (Jg.J.kw.set _ (.inl (by omega))) (cg.kw (an (by omega)))
      ·intro tm H e c' z1 z2 z3 z4 z5 z6 z7;simp only[go_sem,simprocAttr];refine fin tm H e c' z1 z2 z3 z4 z5 ?_;rw[fE',z7];simp[z6,he]
     ·have he':decide (q1.2.1=0)=false:=HD he;simp only[go_sem,simprocAttr,he',t8,g8];refine fin _ _ q1.2.1 q1.2.2 (by simp only[go_sem,simprocAttr,t8]) (by simp only[go_sem,simprocAttr]) (aC _ _ _) (J6.J.kw.set _ (.inl (by omega))) (c6.kw (an (by omega))) ?_;rw[fE'];simp[he]
    ·intro tm H' z1 z2 z3 z4 z5 z6;simp only[go_sem,simprocAttr];refine fin tm H' 22 (some f) z1 z2 z3 z4 (hc3.kw z5) ?_;rw[fE',wae z6]
   have all:∀tm,pQ ms above w (h.z+1) h2.z V11 tm->nth tm 12=.nl->R (cS K (n+20000)) 60000 [.code zj] (IQ Dn (MO w h (ge ms (n+1) t above (some f)))) .normal ⟨tm,⟨[],.no,none,101⟩⟩ H3:=by
    intro tm L t12;have es:zj=.seq (.seq (.region [⟨(some 36),(.faddr 0 1 false (.t 10)),none⟩,⟨(some 37),(.load false 1 (.t 36)),none⟩,⟨(some 38),(.bin .neq .num (.t 37) (.c (wt 12))),none⟩,⟨(some 39),(.mv (.t 38)),none⟩,⟨(some 40),(.faddr 1 1 false (.t 10)),(some (39,false))⟩,⟨(some 41),(.load false 1 (.t 40)),(some (39,false))⟩,⟨(some 42),(.mv (.t 0)),(some (39,false))⟩,⟨(some 43),(.builtin (.len 1) [(.t 42)]),(some (39,false))⟩,⟨(some 44),(.bin .geq .num (.t 41) (.t 43)),(some (39,false))⟩,⟨(some 45),(.pick (.t 39) (.c (.bool true)) (.t 44)),none⟩,⟨(some 46),(.mv (.t 45)),none⟩,⟨(some 47),(.mv (.t 0)),(some (46,false))⟩,⟨(some 48),(.faddr 1 1 false (.t 10)),(some (46,false))⟩,⟨(some 49),(.load false 1 (.t 48)),(some (46,false))⟩,⟨(some 50),(.iaddr 12 (.t 47) (.t 49)),(some (46,false))⟩,⟨(some 51),(.faddr 5 1 false (.t 50)),(some (46,false))⟩,⟨(some 52),(.load false 1 (.t 51)),(some (46,false))⟩,⟨(some 53),(.un .not (.t 52)),(some (46,false))⟩,⟨(some 54),(.pick (.t 46) (.c (.bool true)) (.t 53)),none⟩]) (.cond (.t 54) aep .skip)) rI:=rfl;have t0:=L.t0;have t10:=L.t10;have g10:=x3;unfold au at g10;have lms:=TA ms;rw[es];by_cases hk:hd.kind=12
    ·have d1:decide (hd.kind=12)=true:=HE hk;obtain⟨a,hia,hlt⟩:∃a:Nat,hd.i=(a:Int)/\a<ms.length:=by
      obtain⟨k',i',nm',ls',ks'⟩:=hd;unfold Ok at okh;have:=okh.2.1 hk;exact⟨i'.toNat,by simp only[T.i];omega,by omega⟩
     have hma:ms[a]?=some ms[a]:=wO hlt;have d2:decide ((ms.length:Int)<=hd.i)=false:=HD (by omega);have hia':=fun H=>aN ie hma .i64 H
     rw[<-hia]at hia';revert hma hia';generalize ms[a]=m;intro hma hia';have hkn0:cd ms hd=if m.known=true then some m.val else none:=by
      unfold cd;rw[wae hk,hia,Int.toNat_natCast,hma]
     cases hmk:m.known with
     |false=>
      rw[hmk]at hkn0;simp only[go_sem,simprocAttr,t0,t10,g10,d1,d2,lms,hia',rb,hmk];exact unk (by rw[hkn0];rfl) _ ⟨by simp only[go_sem,simprocAttr,t0],by simp only[go_sem,simprocAttr,L.t2],by simp only[go_sem,simprocAttr,L.t3],by simp only[go_sem,simprocAttr,L.t8],by simp only[go_sem,simprocAttr,t10],by simp only[go_sem,simprocAttr,L.t11]⟩ (by simp only[go_sem,simprocAttr,t12])
     |true=>
      rw[hmk]at hkn0;simp only[go_sem,simprocAttr,t0,t10,g10,d1,d2,lms,hia',rb,hmk];exact kno a m hia hma hmk (by rw[hkn0];rfl) _ ⟨by simp only[go_sem,simprocAttr,t0],by simp only[go_sem,simprocAttr,L.t2],by simp only[go_sem,simprocAttr,L.t3],by simp only[go_sem,simprocAttr,L.t8],by simp only[go_sem,simprocAttr,t10],by simp only[go_sem,simprocAttr,L.t11]⟩ (by simp only[go_sem,simprocAttr,t12])
    ·have d1:decide (hd.kind=12)=false:=HD hk;have hkn0:cd ms hd=none:=by unfold cd;rw[wad hk]
     simp only[go_sem,simprocAttr,t10,g10,d1];exact unk hkn0 _ ⟨by simp only[go_sem,simprocAttr,t0],by simp only[go_sem,simprocAttr,L.t2],by simp only[go_sem,simprocAttr,L.t3],by simp only[go_sem,simprocAttr,L.t8],by simp only[go_sem,simprocAttr,t10],by simp only[go_sem,simprocAttr,L.t11]⟩ (by simp only[go_sem,simprocAttr,t12])
   simp only[go_sem,simprocAttr,ci,zi,gw,HV,b6,e2,hst,HW];exact all _ ⟨by simp only[go_sem,simprocAttr],by simp only[go_sem,simprocAttr],by simp only[go_sem,simprocAttr],by simp only[go_sem,simprocAttr],by simp only[go_sem,simprocAttr],by simp only[go_sem,simprocAttr]⟩ (by simp only[go_sem,simprocAttr])
noncomputable def FillR (ms:List MV)(t:T)(c:Option Int):T×Int×Option Int:=((ge ms 600 t [] c).1,(ge ms 600 t [] c).2.1,if (ge ms 600 t [] c).2.1=0 then eP (ge ms 600 t [] c).1 0 (ge ms 600 t [] c).2.2 else (ge ms 600 t [] c).2.2)
theorem c60 {K:aG}(hK:bW K)(kc:KC K)(kd:KD K)(ke:KE K){P:LL->Prop}(ms:List MV)(hms:ms.length<=8)(hmv:∀m∈ms,m.known=true->size m.val<=60/\Ok P ms.length m.val 0)(w:Nat)
  (t:T) (d:Int) (c:Option Int) (h:AH) (hs:size t<=60) (hd0:0<=d) (hd1:d+size t<=1000) (hok:Ok P ms.length t d) (hc:Cn h w c) (hw:w<h.z) :
  ∃v h',cS K 20601 (.fn 60 [] []) [.ls (ms.map cD),enc t,.ptr w 0 0] .no h=some (.ret v,.no,h')/\v=.tup [enc (FillR ms t c).1,wt (FillR ms t c).2.1]/\HKx w h h'/\Cn h' w (FillR ms t c).2.2:=by
 refine cm hK cf60 (ae (mj _ _) (ae (aP _ _) (ae (dh _ _ _ _) (aB _)))) ?_;simp only[wab];have J0:=kS.init t h;have ih:=fun H hc hw=>c101 hK kc kd ke ms hms hmv w 600 (by omega) t d [] c H hs hd0 hd1 hok (by simp) (by simp) (by simp only[List.length_nil];omega) hc hw
 have fsz:=xX ms (fun m hm hk=>(hmv m hm hk).1) 600 t [] c hs;unfold FillR;revert ih fsz;generalize ge ms 600 t [] c=q;intro ih fsz;rw[aA t]at ih ⊢;unfold b60;unfold au at J0;simp only[go_sem,simprocAttr];revert J0;generalize ((h.new (.box [wt t.kind,wt t.i,.str t.name,.ls (t.L.map aK),.ls (t.K.map enc)])).new (.box [wt 0,wt 0,.str (bs []),.nl,.nl]))=H;intro J0;have b6:=J0.b6;have b8:=J0.b10;unfold au at b6;have nx:=J0.nx;have hcH:=hc.kw (J0.kw.kw w hw);obtain⟨_,h2,e2,rfl,k2,c2⟩:=ih H hcH (by omega);have n2:=k2.z;have e101:∀x:AV,x=enc t->cS K (600+20000) (.fn 101 [] []) [.ls (ms.map cD),x,.nl,.ptr w 0 0] .no H=cS K (600+20000) (.fn 101 [] []) [.ls (ms.map cD),x,.ls (([]:List Int).map dF),.ptr w 0 0] .no H:=by
  rintro x rfl;exact vZ (ae (mj _ _) (ae (aP _ _) (ae (oC _) (ae (dh _ _ _ _) (aB _))))) (ae (mj _ _) (ae (aP _ _) (ae (vN _ _) (ae (dh _ _ _ _) (aB _)))))
 have e101:=e101 _ (aA t).symm;rw[e2]at e101;have hst:=aQ (h:=h2.new (.box [wt 0,wt 0,.str (bs []),.nl,.nl])) (k:=h2.z) (aE _ _) q.1;obtain⟨H3,hH3⟩:∃H3:AH,H3=(h2.new (.box [wt 0,wt 0,.str (bs []),.nl,.nl])).set h2.z (.box (au q.1)):=⟨_,rfl⟩
 have k3:HK h2 H3:=by subst hH3;exact HK.new_set _ _ _
 have x3:H3.get h2.z=some (.box (au q.1)):=by subst hH3;exact aC _ _ _
 have n3:H3.z=h2.z+1:=by subst hH3;simp only[co,ci]
 rw[<-hH3]at hst;clear hH3;have c3:=c2.kw (k3.kw w (by omega));have kk:=(J0.kw.x w).trans (k2.trans (k3.x w));have b8':=(k3.kw (h.z+1) (by omega)).trans ((k2.kw _ (by omega) (by omega)).trans b8);have fin:∀tm H4 c',nth tm 6=.ptr (h.z+1) 0 0->nth tm 7=wt q.2.1->H4.get (h.z+1)=some (.box (au q.1))->HKx w h H4->Cn H4 w c'->c'=(if q.2.1=0 then eP q.1 0 q.2.2 else q.2.2)->
   IQ r60 (fun v h2=>∃v' h3,gT v h2=(v',h3)/\v'=.tup [enc q.1,wt q.2.1]/\HKx w h h3/\Cn h3 w (if q.2.1=0 then eP q.1 0 q.2.2 else q.2.2)) .ret ⟨tm,⟨[],.no,none,60⟩⟩ H4:=by
  intro tm H4 c' t6 t7 g k c e;subst e;unfold au at g;exact⟨rfl,rfl,.inr rfl,[.agg [_,_,_,_,_],wt q.2.1],by simp only[go_sem,simprocAttr,r60,t6,t7,g],_,_,bG (ae (iG (ir (eC _) (eL _)) _) (ae (ba _ _ _) (aB _))),rfl,k,c⟩
 have x3':=x3;unfold au at x3';simp only[go_sem,simprocAttr,ci,aau,b6,e101,hst,aav];by_cases he:q.2.1=0
 ·have he':decide (q.2.1=0)=true:=HE he;obtain⟨_,H4,e4,rfl,k4,c4⟩:=acD hK kd ke 20599 q.1 0 (by have:=fsz he;omega) w q.2.2 H3 c3 (by omega);rw[aA q.1]at e4;have x4:=(k4.kw _ (by omega) (by omega)).trans x3';have b84:=(k4.kw (h.z+1) (by omega) (by omega)).trans b8';simp only[go_sem,simprocAttr,he',x3',e4,UY,x4,b84];exact fin _ _ _ (by simp only[go_sem,simprocAttr]) (by simp only[go_sem,simprocAttr]) (aC _ _ _) ((kk.trans k4).set _ (.inl (by omega))) (c4.kw (an (by omega))) (by rw[wae he])
 ·have he':decide (q.2.1=0)=false:=HD he;simp only[go_sem,simprocAttr,he',x3',UY,b8'];exact fin _ _ _ (by simp only[go_sem,simprocAttr]) (by simp only[go_sem,simprocAttr]) (aC _ _ _) (kk.set _ (.inl (by omega))) (c3.kw (an (by omega))) (by rw[wad he])
mutual
def pL (l:List Int):T->List Int
 |.mk k i _ _ ks=>if k=12 then (if i∈l then l else lh (l++[i]) ks) else lh l ks
def lh (l:List Int):List T->List Int
 |[]=>l
 |t::ts=>lh (pL l t) ts
end
mutual
theorem Cz:∀(t:T) (l:List Int),l.length<=(pL l t).length/\(pL l t).length<=l.length+size t
 |.mk k i nm ls ks,l=>by
  unfold pL;simp only[size];split
  ·split
   ·omega
   ·have:=lP ks (l++[i]);simp only[List.length_append,List.length_cons,List.length_nil]at this;omega
  ·have:=lP ks l;omega
theorem lP:∀(ks:List T) (l:List Int),l.length<=(lh l ks).length/\(lh l ks).length<=l.length+aW ks
 |[],l=>by simp[lh,aW]
 |t::ts,l=>by
  have h1:=Cz t l;have h2:=lP ts (pL l t);unfold lh;simp only[aW];omega
end
theorem DT (l:List Int)(ks:List T)(a:Nat)(t:T)(h:ks[a]?=some t):lh l (ks.take (a+1))=pL (lh l (ks.take a)) t:=by
 induction ks generalizing l a with
 |nil=>simp at h
 |cons x ks ih=>
  cases a with
  |zero=>simp at h;subst h;simp[lh]
  |succ a=>simp at h;simp only[List.take_succ_cons,lh];exact ih _ a h
mutual
def wh:T->Bool
 |.mk k _ _ _ ks=>decide (k=12)||vW ks
def vW:List T->Bool
 |[]=>false
 |t::ts=>wh t||vW ts
end
mutual
theorem vt:∀(t:T) (l:List Int),pL l t=[]↔l=[]/\wh t=false
 |.mk k i nm ls ks,l=>by
  unfold pL wh;by_cases hk:k=12
  ·rw[wae hk];constructor
   ·intro h;split at h
    ·rename_i q;rw[h]at q;simp at q
    ·have:=(lP ks (l++[i])).1;rw[h]at this;simp at this
   ·rintro⟨_,h⟩;simp[hk]at h
  ·rw[wad hk,xN ks l];simp[hk]
theorem xN:∀(ks:List T) (l:List Int),lh l ks=[]↔l=[]/\vW ks=false
 |[],l=>by simp[lh,vW]
 |t::ts,l=>by
  unfold lh vW;rw[xN ts,vt t];simp[and_assoc]
end
theorem NV (t:T):decide ((0:Int)<((pL [] t).length:Int))=wh t:=by
 cases h:wh t with
 |false=>
  have:pL [] t=[]:=(vt t []).2 ⟨rfl,h⟩;rw[this];rfl
 |true=>
  refine HE ?_;cases hm:pL [] t with
  |nil=>have:=((vt t []).1 hm).2;rw[h]at this;cases this
  |cons a l=>simp only[List.length_cons];omega
theorem WQ {base:Nat}{h:AH}{V:AV}{l:List Int}(o:Own base 1 false h V (l.map dF)){a:Nat}{x:Int}(ha:l[a]?=some x):∃p,(∀H,cz V H 1 (wt (a:Int))=.val p H)/\dH p h false 1=some (wt x):=by
 have hl:a<l.length:=(wah.1 ha).1;obtain⟨o1,⟨rfl,e⟩|⟨kk,g,rfl,hk,_,_⟩⟩:=o
 ·rw[List.map_eq_nil_iff]at e;subst e;simp at ha
 ·have hfl:flat (l.map dF)=l.map dF:=by
   clear ha hk hl o1;induction l with
   |nil=>rfl
   |cons y l ih=>rw[List.map_cons,bO,ih];rfl
  refine⟨.ptr kk g a,fun H=>?_,?_⟩
  ·show okV (cond (Nat.beq 1 1) (aq (aq (some a) fun m=>cond (Nat.blt m (l.map dF).length) (some m) none) fun n=>some (.ptr kk g (Nat.mul (Nat.add 0 n) 1))) none) H=_;have hb:Nat.blt a (l.map dF).length=true:=Nat.ble_eq_true_of_le (by rw[waa];exact hl);rw[aF,hb];show OpR.val (.ptr kk g (Nat.mul (Nat.add 0 a) 1)) H=_;congr 2;show(0+a)*1=a;omega
  ·rw[jz,hk,aF];show cond (Nat.beq g g) (pN false 1 a (flat (l.map dF))) none=_;rw[fN,cond_true,wN,hfl,List.getElem?_map,ha];rfl
structure Go1 (base:Nat)(h:AH)(V:AV)(l:List Int)(h':AH)(V':AV)(l':List Int):Prop where
 own:Own base 1 false h' V' (l'.map dF)
 z:h.z<=h'.z
 low:∀k,k<base->h'.get k=h.get k
 kw:∀k,k<h.z->(∀g n,V≠.row k g 1 0 n)->h'.get k=h.get k
 key:∀k,k<h.z->(∀g n,V≠.row k g 1 0 n)->∀g n,V'≠.row k g 1 0 n
theorem Go1.trans {base:Nat}{h h' h'':AH}{V V' V'':AV}{l l' l'':List Int}(a:Go1 base h V l h' V' l')(b:Go1 base h' V' l' h'' V'' l''):Go1 base h V l h'' V'' l'':=
 ⟨b.own,Nat.le_trans a.z b.z,fun k q=>(b.low k q).trans (a.low k q),fun k q1 q2=>(b.kw k (Nat.lt_of_lt_of_le q1 a.z) (a.key k q1 q2)).trans (a.kw k q1 q2),fun k q1 q2=>b.key k (Nat.lt_of_lt_of_le q1 a.z) (a.key k q1 q2)⟩
theorem Go1.refl {base:Nat}{h:AH}{V:AV}{l:List Int}(o:Own base 1 false h V (l.map dF)):Go1 base h V l h V l:=⟨o,Fv _,fun _ _=>rfl,fun _ _ _=>rfl,fun _ _ q=>q⟩
theorem Go1.hk {base:Nat}{h0 h h':AH}{V V':AV}{l l':List Int}(k:HK h0 h)(_o:Own base 1 false h0 V (l.map dF))(hb:base<=h0.z)(a:Go1 base h V l h' V' l'):Go1 base h0 V l h' V' l':=
 ⟨a.own,Nat.le_trans k.z a.z,fun j q=>(a.low j q).trans (k.kw j (by omega)),fun j q1 q2=>(a.kw j (Nat.lt_of_lt_of_le q1 k.z) q2).trans (k.kw j q1),fun j q1 q2=>a.key j (Nat.lt_of_lt_of_le q1 k.z) q2⟩
def I103a (t:T)(l:List Int)(V:AV)(b:Nat)(H0:AH)(j:Nat)(fr:AF)(h:AH):Prop:=∃tm p,p+j=l.length/\fr=⟨tm,⟨[],.no,none,103⟩⟩/\h=H0/\nth tm 0=V/\nth tm 3=.ptr b 0 0/\nth tm 5=wt (p:Int)/\t.i ∉ l.take p
def I103b (t:T)(base:Nat)(l1:List Int)(V1:AV)(b:Nat)(H1:AH)(j:Nat)(fr:AF)(h:AH):Prop:=∃tm p V,p+j=t.K.length/\fr=⟨tm,⟨[],.no,none,103⟩⟩/\nth tm 0=V/\nth tm 3=.ptr b 0 0/\nth tm 6=wt (p:Int)/\Go1 base H1 V1 l1 h V (lh l1 (t.K.take p))
theorem c103 {K:aG}(hK:bW K):∀(m:Nat) (t:T) (l:List Int) (V:AV) (base:Nat) (h:AH),size t+1<=m->l.length+size t<=50000->Own base 1 false h V (l.map dF)->base<=h.z->
  ∃v h',cS K m (.fn 103 [] []) [V,enc t] .no h=some (.ret v,.no,h')/\Go1 base h V l h' v (pL l t):=by
 intro m;induction m with
 |zero=>intro t l V base h hm;omega
 |succ m ih=>
  intro t l V base h hm h50 o hb;refine Yp hK cf103 ?_;simp only[wab];have hml:=Cz t l;obtain⟨H,hH⟩:∃H:AH,H=h.new (.box (au t)):=⟨_,rfl⟩
  have k0:HK h H:=by subst hH;exact HK.new _ _
  have x0:H.get h.z=some (.box (au t)):=by subst hH;exact aE _ _
  have n0:H.z=h.z+1:=by subst hH;exact ci _ _
  unfold au at hH x0;rw[aA t];unfold b103;simp only[go_sem,simprocAttr];rw[<-hH];clear hH;have oH:Own base 1 false H V (l.map dF):=bp o k0.z (fun a _ q=>k0.kw a q);have hne:∀g n,V≠.row h.z g 1 0 n:=by
   intro g n e;obtain⟨_,⟨q,_⟩|⟨k,g',q,_,q2,_⟩⟩:=o
   ·rw[q]at e;cases e
   ·rw[q]at e;injection e with e;omega
  have kids:∀(tm:Tm) (V1:AV) (H1:AH) (l1:List Int),nth tm 0=V1->nth tm 3=.ptr h.z 0 0->l1.length+size t<=50001->Go1 base H V l H1 V1 l1->pL l t=lh l1 t.K->
    R (cS K m) 60000 [.code GN] (IQ acv fun v h2=>Go1 base h V l h2 v (pL l t)) .normal ⟨tm,⟨[],.no,none,103⟩⟩ H1:=by
   intro tm V1 H1 l1 t0 t3 hl1 G e;have hlen:=bE t.K;have hsz:size t=1+aW t.K:=by cases t;simp[size,T.K]
   unfold GN;simp only[go_sem,simprocAttr];refine bD (I103b t base l1 V1 h.z H1) t.K.length (by omega) ⟨_,0,V1,wac _,rfl,by simp only[go_sem,simprocAttr,t0],by simp only[go_sem,simprocAttr,t3],by simp only[go_sem,simprocAttr],by simpa [lh] using Go1.refl G.own⟩ ?_;rintro j fr H2 ⟨tm,p,V2,hp,rfl,t0,t3,t6,G2⟩;have G12:=G.trans G2;have x2:=(G12.kw h.z (by omega) hne).trans x0;have n12:=G12.z;unfold Uk;simp only[go_sem,simprocAttr,t3,t6,x2];refine bj (fun hlt=>?_) (fun hge=>?_)
   ·have hlt:p<t.K.length:=by omega
    have hget:t.K[p]?=some t.K[p]:=wO hlt;have ha:=fun h=>aN aZ hget .i64 h
    have hss:=ck hget;have hw:=aM p (by omega);have hmt:=DT l1 t.K p _ hget;have hml2:=lP (t.K.take p) l1;have hst:=kq t.K p _ hget;have hsl:=fQ t.K (p+1);obtain⟨V3,H3,e3,G3⟩:=ih t.K[p] _ V2 base H2 (by omega) (by omega) G2.own (by omega);simp only[go_sem,simprocAttr,Tf,t0,t3,t6,x2,ha,e3,hw];exact⟨j-1,by omega,_,p+1,V3,by omega,rfl,by simp only[go_sem,simprocAttr],by simp only[go_sem,simprocAttr,t3],by simp only[go_sem,simprocAttr],by rw[hmt];exact G2.trans G3⟩
   ·have:p=t.K.length:=by omega
    subst this;rw[List.take_length]at G2 G12;simp only[go_sem,simprocAttr,Te,t0];refine⟨rfl,rfl,.inr rfl,[V2],by simp only[go_sem,simprocAttr,acv],?_⟩;rw[gP,e];exact G12.hk k0 o hb
  obtain⟨k,i,nm,ls,ks⟩:=t;simp only[T.kind,T.i,T.name,T.L,T.K]at x0 kids ⊢;by_cases hk:k=12
  ·have hk':decide (k=12)=true:=HE hk;have hl:=zl oH;rw[waa]at hl;have hll:=zl o;have hlenl:∀H',lenOf V H' 1=some l.length:=by
    intro H';obtain⟨_,⟨rfl,e⟩|⟨k,g,rfl,_⟩⟩:=o
    ·have:l=[]:=by simpa using e
     subst this;rfl
    ·rw[uU,waa]
   simp only[go_sem,simprocAttr,GM,x0,hk'];refine bD (I103a (.mk k i nm ls ks) l V h.z H) l.length (by omega) ⟨_,0,wac _,rfl,rfl,by simp only[go_sem,simprocAttr],by simp only[go_sem,simprocAttr],by simp only[go_sem,simprocAttr],by simp⟩ ?_;rintro j fr H2 ⟨tm,p,hp,rfl,rfl,t0,t3,t5,hni⟩;unfold Ul;simp only[go_sem,simprocAttr,t0,t5,hlenl];refine bj (fun hlt=>?_) (fun hge=>?_)
   ·have hlt:p<l.length:=by omega
    have hget:l[p]?=some l[p]:=wO hlt;obtain⟨pp,ha,hld⟩:=WQ oH hget;have hw:=aM p (by omega);simp only[go_sem,simprocAttr,Tg,t0,t3,t5,ha,hld,x0];refine bj (fun heq=>?_) (fun hneq=>?_)
    ·simp only[go_sem,simprocAttr,t0];refine⟨rfl,rfl,.inr rfl,[V],by simp only[go_sem,simprocAttr,acv],?_⟩;have e:pL l (.mk k i nm ls ks)=l:=by
      unfold pL;rw[wae hk,wae (by rw[<-heq];exact List.getElem_mem hlt)]
     rw[gP,e];exact(Go1.refl oH).hk k0 o hb
    ·simp only[go_sem,simprocAttr,t5,hw];refine⟨j-1,by omega,_,p+1,by omega,rfl,rfl,by simp only[go_sem,simprocAttr,t0],by simp only[go_sem,simprocAttr,t3],by simp only[go_sem,simprocAttr],?_⟩;rw[List.take_add_one,hget];intro hm;rcases List.mem_append.1 hm with q|q
     ·exact hni q
     ·simp at q;exact hneq q.symm
   ·have:p=l.length:=by omega
    subst this;rw[List.take_length]at hni;simp only[T.i]at hni;obtain⟨V',H4,e4,o4,n4,k4,_,_,kk4,k',g',hV',hv1,hv2⟩:=cV (bytes:=8) (x:=wt i) (z:=[wt 0]) oH (by omega) rfl rfl rfl rfl (by rw[waa];omega) (by decide);have x4:H4.get h.z=_:=(kk4 h.z (by omega) hne).trans x0;simp only[go_sem,simprocAttr,t0,t3,x0,e4];refine kids _ V' H4 (l++[i]) (by simp only[go_sem,simprocAttr]) (by simp only[go_sem,simprocAttr,t3]) (by simp only[List.length_append,List.length_cons,List.length_nil];omega) ⟨by rw[List.map_append];exact o4,n4,k4,kk4,?_⟩ (by unfold pL;rw[wae hk,wad hni]);intro a ha hna g n e;rw[hV']at e;injection e with e;obtain⟨_,⟨q,_⟩|⟨k2,g2,q,_,q2,_⟩⟩:=oH
    ·have:=hv1 q;omega
    ·have:=hv2 _ _ _ q;exact hna g2 _ (by rw[q,<-this,e])
  ·have hk':decide (k=12)=false:=HD hk;simp only[go_sem,simprocAttr,GM,x0,hk'];exact kids _ V H l (by simp only[go_sem,simprocAttr]) (by simp only[go_sem,simprocAttr]) (by omega) (Go1.refl oH) (by unfold pL;rw[wad hk])
theorem c61 {K:aG}(hK:bW K)(m:Nat)(t:T)(h:AH)(hm:size t+1<=m)(h50:size t<=50000):
  ∃v h',cS K (m+1) (.fn 61 [] []) [enc t] .no h=some (.ret v,.no,h')/\v=.ls ((pL [] t).map dF)/\HK h h':=by
 refine cm hK cf61 (ae (aP _ _) (aB _)) ?_;simp only[wab];obtain⟨H,hH⟩:∃H:AH,H=h.new (.box (au t)):=⟨_,rfl⟩
 have k0:HK h H:=by subst hH;exact HK.new _ _
 have x0:H.get h.z=some (.box (au t)):=by subst hH;exact aE _ _
 have n0:H.z=h.z+1:=by subst hH;exact ci _ _
 obtain⟨V,H2,e2,G⟩:=c103 hK m t [] .nl H.z H hm (by simpa using h50) (fD _ _ _ _) (Fv _);unfold au at hH x0;rw[aA t]at e2 ⊢;unfold b61;simp only[go_sem,simprocAttr];rw[<-hH];clear hH;obtain⟨H3,e3,n3,k3⟩:=vp G.own;have n2:=G.z;simp only[go_sem,simprocAttr,aat,x0,e2];refine⟨rfl,rfl,.inr rfl,[V],by simp only[go_sem,simprocAttr,r61],.ls ((pL [] t).map dF),H3,?_,rfl,⟨by omega,fun a ha=>by rw[k3 a (by omega),G.low a (by omega),k0.kw a ha]⟩⟩;obtain⟨_,⟨q,_⟩|⟨k,g,q,_⟩⟩:=G.own
 ·rw[gP,q];rw[q]at e3;exact e3
 ·rw[gP,q];rw[q]at e3;exact e3
