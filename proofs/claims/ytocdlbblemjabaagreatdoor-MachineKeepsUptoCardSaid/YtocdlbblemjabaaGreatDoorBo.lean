/- MachineKeeps: machine.Norm (no condition). -/
import Derived.Test.YtocdlbblemjabaaGreatDoorBn
namespace Go.Proofs.YtocdlbblemjabaaGreatDoor
open Go.AG Go.AG.MK
theorem Wg.std {M:Ms}(g:Wg M):Wg (Mst M.ns M.ts) where
 len:=g.len
 lenF:=by show(M.ts.map eD).length=_;rw[L_];exact g.len
 most:=g.most
 node:=g.node
 free i t h:=by
  have h:M.ts[i]?=some t:=h;show(M.ts.map eD)[i]?=_;rw[List.getElem?_map,h];rfl
 tok:=g.tok
 nd:=g.nd
theorem mem0 {C:MK.Cx}(gs:List NV)(ts:List T):Mem C (Mst gs ts):=⟨fun e he=>(by cases he),fun e he=>(by cases he)⟩
theorem ct0 (gs:List NV)(ts:List T):Ct (Mst gs ts):=⟨by show(0:Int)<=0;omega,by show(0:Int)<=4000000;omega,by show(0:Int)<=0;omega,by show(0:Int)<=20000;omega⟩
theorem Wv {H:AH}{kk g:Nat}{ns:List NV}(hk:H.get kk=some (.row g 5 true (flat (ns.map aT)) 0))(hlt:kk<H.z):
  ∃ H',cE (.agg [.row kk g 5 0 ns.length]) H=(.agg [.ls (ns.map aT)],H')/\H'.z=H.z/\∀ j,j≠kk->H'.get j=H.get j:=by
 have o:Own 0 5 true H (.row kk g 5 0 ns.length) (ns.map aT):=⟨fun x hx=>by obtain⟨n,_,rfl⟩:=List.mem_map.1 hx;exact⟨rfl,rfl⟩,.inr ⟨kk,g,by rw[L_],hk,hlt,Nat.zero_le _⟩⟩;rcases own_shut o (fun e=>by cases e) with⟨e,_,_⟩|⟨k',g',e1,e2,_,_⟩
 ·cases e
 ·rw[L_]at e1;cases e1;refine⟨H.set kk (.row g 5 true (flat (ns.map aT)) ((ns.map aT).length*5)),?_,alb _ _ _,fun j hj=>aB hj⟩;show((AV.agg (cC _ H).1).norm,(cC _ H).2)=_;have e5:cC [.row kk g 5 0 ns.length] H=([.ls (ns.map aT)],H.set kk (.row g 5 true (flat (ns.map aT)) ((ns.map aT).length*5))):=by
   show((cP (.row kk g 5 0 ns.length) H).1 :: [],(cP (.row kk g 5 0 ns.length) H).2)=_;rw[e2]
  rw[e5];simp[AV.norm,AV.ald,bw mj]
section
variable {K:aQ}{env:List DV}{h:AH}
theorem c1034 (hK:aZ K){A:Ma}{B B1:Nat}{E:AV}{C:MK.Cx}{m:Nat}(nq:Nq K A B B1 E C m 0){M:Ms}{gN gF:Nat}(s:St A B B1 E M gN gF h)(g:Wg M)(c:Ct M)(mem:Mem C M){x:Int}{t:T}(hx:At M.ts x t){px:Nat}(gx:h.get px=some (.box [i_ x])):
  Mc K (m+1) A B B1 E (34) [.ptr px 0 0] [.ptr A.a 0 0] M h fun M' v=>Mx C M M'/\∃ r u,v=i_ r/\At M'.ts r u/\Rl C t u:=by
 refine fG hK ajZ (ae (bD _ _ _ _) (aC _)) ?_;obtain⟨o,h',e,hm,q⟩:=nq M gN gF h x t s g c mem c.v0 hx;unfold aha;simp only[go_sem,simprocAttr,Nz,gx];rcases q with⟨v,rfl,M',gN',gF',st,g',le,mx,r,u,rfl,a,rl⟩|rfl
 ·simp only[go_sem,simprocAttr,e];exact fR (.inr rfl) (by simp only[go_sem,simprocAttr,afj]) hm ⟨M',gN',gF',st,g',le,mx,r,u,rfl,a,rl⟩
 ·simp only[go_sem,simprocAttr,e];exact cB hm
def Ht (C:MK.Cx)(gs:List NV)(ts:List T)(x:Int)(v:AV):Prop:=
 (¬ (0<=x/\x<(gs.length:Int))/\v=.tup [.agg [.ls []],i_ 0,i_ 2])∨
 v=.tup [.agg [.ls []],i_ 0,i_ 11]∨
 ∃ gs' ts' r t u,v=.tup [.agg [.ls (gs'.map aT)],i_ r,i_ 0]/\Wg (Mst gs' ts')/\(∃ l,gs'=gs++l)/\(∃ l,ts'=ts++l)/\At ts x t/\At ts' r u/\Rl C t u
theorem xR (h:AH):cE (.agg [.nl]) h=(.agg [.ls []],h):=by
 rw[bG (by simp[AV.free,AV.ale])];simp[AV.norm,AV.ald]
theorem acw (h:AH)(x:Int):fY true false 1 [i_ 0] 1 [(0,1,i_ x)] h=.val (.clip [i_ x]) h:=(rfl)
theorem c1029 (hK:aZ K)(km:KM K)(kg:KG K)(ks:KS K)(eg:Eg env)(m:Nat)(hm:100000000<=m){gs:List NV}{ts:List T}(g:Wg (Mst gs ts))(x:Int){px:Nat}(gx:h.get px=some (.box [i_ x]))(hpx:px<h.z):
  ∃ v h',cS K (m+2) (.fn 29 [] []) [.ls (env.map bW),.agg [.ls (gs.map aT)],i_ x,.fn 34 [] [.ptr px 0 0]] .no h=some (.ret v,.no,h')/\HK h h'/\Ht (Ce env inst) gs ts x v:=by
 have hr:Rn (cS K) 29:=mw hK;have most:gs.length<=65536:=g.most;have canf:∀ h,cE (.fn 34 [] [.ptr px 0 0]) h=(.fn 34 [] [.ptr px 0 0],h):=fun h=>by rw[iR];simp[AV.ald,AV.norm]
 have key:=hr (m+1) [] _ _ .no h _ _ _ _ (fun o rc h'=>rc=.no/\HK h h'/\∃ v,o=.ret v/\Ht (Ce env inst) gs ts x v) aj1 (ae (jD env h) (ae (iA gs h) (ae (aG .i64 x h) (ae (canf h) (aC _))))) (by
  simp only[A_];obtain⟨H,hH⟩:∃ H:AH,H=(((h.new (.box [.ls (gs.map aT)])).new (.box [.nl])).new (.box [i_ 0])).new (.box [i_ 0]):=⟨_,rfl⟩
  have k0:HK h H:=by rw[hH];exact(((HK.new _ _).add _).add _).add _
  have n0:H.z=h.z+4:=by rw[hH];simp only[ala]
  have g5:H.get h.z=some (.box [.ls (gs.map aT)]):=by rw[hH,aL (by simp only[ala];omega),aL (by simp only[ala];omega),aL (by simp only[ala];omega),aE]
  have g8:H.get (h.z+1)=some (.box [.nl]):=by
   rw[hH,aL (by simp only[ala];omega),aL (by simp only[ala];omega)];have:h.z+1=(h.new (.box [.ls (gs.map aT)])).z:=by simp only[ala]
   rw[this,aE]
  have g9:H.get (h.z+1+1)=some (.box [i_ 0]):=by
   rw[hH,aL (by simp only[ala];omega)];have:h.z+1+1=((h.new (.box [.ls (gs.map aT)])).new (.box [.nl])).z:=by simp only[ala]
   rw[this,aE]
  have g10:H.get (h.z+1+1+1)=some (.box [i_ 0]):=by
   rw[hH];have:h.z+1+1+1=(((h.new (.box [.ls (gs.map aT)])).new (.box [.nl])).new (.box [i_ 0])).z:=by simp only[ala]
   rw[this,aE]
  have hb:∀ H:AH,dB H 1 (.agg [.ls (gs.map aT)])=.val (.ptr H.z 0 0) (H.new (.box [.ls (gs.map aT)])):=fun H=>bN _ 1 rfl
  have hbz:∀ H:AH,bT H [.nl] []=.val (.agg [.nl]) H:=fun _=>rfl
  obtain⟨v,H1,e1,rfl,k1⟩:=c1056 (h:=H) hK (m-3) (gs:=gs) x most;rw[show m-3+4=m+1 by omega,<- jo (f:=56) (c:=[]) (ae (iA gs H) (ae (mo x H) (aC _))) (ae (iA _ _) (ae (dM _ _) (aC _)))]at e1;have nx1:=k1.z;have g51:=(k1.kw _ o_).trans g5;have g81:=(k1.kw _ o_).trans g8;have g91:=(k1.kw _ o_).trans g9;have g101:=(k1.kw _ o_).trans g10;have k01:=k0.trans k1;have c1:¬ h.z+1=h.z+1+1:=o_;have c2:¬ h.z+1=h.z+1+1+1:=o_;have c3:¬ h.z+1+1=h.z+1+1+1:=o_;have c1':¬ h.z+1+1=h.z+1:=o_;have c2':¬ h.z+1+1+1=h.z+1:=o_;have c3':¬ h.z+1+1+1=h.z+1+1:=o_;unfold ahc;simp only[go_sem,simprocAttr,hb,ala];rw[<- hH];clear hH;simp only[go_sem,simprocAttr,NJ,g5,dT,acw,e1];by_cases hin:0<=x/\x<(gs.length:Int)
  ·have hd:decide (0<=x/\x<(gs.length:Int))=true:=T_ hin;have hx:(Mst gs ts).ts[x.toNat]?=some (ts[x.toNat]'(by have:=g.len;have:ts.length=gs.length:=this;omega)):=a_ _;generalize (ts[x.toNat]'(by have:=g.len;have:ts.length=gs.length:=this;omega))=t at hx;have ax:At (Mst gs ts).ts x t:=⟨hin.1,hx⟩;have panE:∀ (tm:Tm) (H':AH),nth tm 8=.ptr (h.z+1) 0 0->nth tm 9=.ptr (h.z+1+1) 0 0->nth tm 10=.ptr (h.z+1+1+1) 0 0->HK H1 H'->
     XQ (cS K (m+1)) He (ru fun o rc h'=>rc=RC.no/\HK h h'/\∃ v,o=dH.ret v/\Ht (Ce env inst) gs ts x v) (.panic pv) ⟨tm,⟨[.call (.fn 57 [] [.ptr (h.z+1) 0 0,.ptr (h.z+1+1) 0 0,.ptr (h.z+1+1+1) 0 0]) []],.no,none,29⟩⟩ H':=by
    intro tm H' t8 t9 t10 k;have q8:=(k.kw _ o_).trans g81;have q9:=(k.kw _ o_).trans g91;have q10:=(k.kw _ o_).trans g101;have ed:=akm hK (m-1) (h.z+1) (h.z+1+1) (h.z+1+1+1) q8 q9 q10 c1 c2 c3;rw[show m-1+2=m+1 by omega]at ed;refine ZI (vs:=[.agg [.nl],i_ 0,i_ 11]) ed ?_ ⟨_,_,bz (ae (xR _) (ae (aG _ _ _) (ae (aG _ _ _) (aC _)))),rfl,(((k01.trans k).set _ o_).set _ o_).set _ o_,_,rfl,.inr (.inl rfl)⟩;simp only[go_sem,simprocAttr,He,t8,t9,t10,c1,c2,c3]
   obtain⟨o2,H2,e2,k2,q2⟩:=c1059 (E:=.ls (env.map bW)) (h:=H1) hK km (m-3) g o_ (fun h=>jD env h) (fun _ _ _ _ _ _=>rfl);rw[show m-3+4=m+1 by omega]at e2;rcases q2 with⟨A,B1,gN,gF,rfl,st⟩|rfl
   ·have nq:=c1035 hK km kg eg (c1104 hK km ks) 4000001 0 o_ m o_ (A:=A) (B:=H1.z) (B1:=B1);have gx2:H2.get px=some (.box [i_ x]):=(k2.kw _ o_).trans ((k01.kw _ hpx).trans gx);obtain⟨o3,H3,e3,hm3,q3⟩:=c1034 hK nq st g (ct0 gs ts) (mem0 gs ts) ax gx2;have k13:HK H1 H3:=⟨by have:=k2.z;have:=hm3.z;omega,fun k hk=>(hm3.kw k (by have:=k2.z;omega) (.inl hk)).trans (k2.kw k hk)⟩;simp only[go_sem,simprocAttr,hd,AW,AY,g51,e2,NK];rcases q3 with⟨v,rfl,M',gN',gF',st3,g3,le3,mx3,r,u,rfl,ar,rl⟩|rfl
    ·have rng:=st3.ok.rng;have nx3:=k13.z;have b13:=st3.b1;have g93:=(k13.kw (h.z+1+1) o_).trans g91;have g83:=(k13.kw (h.z+1) o_).trans g81;have g103:=(k13.kw (h.z+1+1+1) o_).trans g101;have gA:=st3.gA;have gNr:=st3.gN;unfold mL at gA;have a1:¬ A.a=h.z+1+1:=o_;have a2:¬ A.a=h.z+1:=o_;simp only[go_sem,simprocAttr,e3,g93,NL,gA,a1,g83,g103,c1,c3,c1',c2',c3'];obtain⟨H4,hH4⟩:∃ H4:AH,H4=(((H3.set (h.z+1+1) (.box [i_ r])).set (h.z+1) (.box [.row A.kN gN' 5 0 M'.ns.length])).set (h.z+1+1) (.box [i_ r])).set (h.z+1+1+1) (.box [i_ 0]):=⟨_,rfl⟩
     have r8:H4.get (h.z+1)=some (.box [.row A.kN gN' 5 0 M'.ns.length]):=by rw[hH4,aB c2,aB c1,aH]
     have r9:H4.get (h.z+1+1)=some (.box [i_ r]):=by rw[hH4,aB c3,aH]
     have r10:H4.get (h.z+1+1+1)=some (.box [i_ 0]):=by rw[hH4,aH]
     have rN:H4.get A.kN=some (.row gN' 5 true (flat (M'.ns.map aT)) 0):=by
      rw[hH4,aB o_,aB o_,aB o_,aB o_];exact gNr
     have n4:H4.z=H3.z:=by rw[hH4];simp only[alb]
     have o4:∀ k,k<h.z->H4.get k=H3.get k:=fun k hk=>by rw[hH4,aB o_,aB o_,aB o_,aB o_]
     rw[<- hH4];clear hH4;obtain⟨H5,ec,n5,o5⟩:=Wv rN o_;refine ZJ (.inr rfl) (akl hK m _ _ _) (vs:=[.agg [.row A.kN gN' 5 0 M'.ns.length],i_ r,i_ 0]) ?_ ⟨_,_,bz (ae ec (ae (aG _ _ _) (ae (aG _ _ _) (aC _)))),rfl,⟨o_,fun k hk=>(o5 k o_).trans ((o4 k hk).trans ((k13.kw k o_).trans (k01.kw k hk)))⟩,_,rfl,.inr (.inr ⟨M'.ns,M'.ts,r,t,u,rfl,g3.std,le3.ns,le3.ts,ax,ar,rl⟩)⟩;simp only[go_sem,simprocAttr,He,r8,r9,r10]
    ·simp only[go_sem,simprocAttr,e3];exact panE _ H3 k_ k_ k_ k13
   ·simp only[go_sem,simprocAttr,hd,AW,AY,g51,e2];exact panE _ H2 k_ k_ k_ k2
  ·have hd:decide (0<=x/\x<(gs.length:Int))=false:=D_ hin;simp only[go_sem,simprocAttr,hd,hbz,g81,g91,g101,c1',c2',c3'];refine jE (.inr rfl) (vs:=[.agg [.nl],i_ 0,i_ 2]) ?_ ⟨_,_,bz (ae (xR _) (ae (aG _ _ _) (ae (aG _ _ _) (aC _)))),rfl,((k01.set _ o_).set _ o_).set _ o_,_,rfl,.inl ⟨hin,rfl⟩⟩;simp only[go_sem,simprocAttr,He,c1,c2,c3])
 obtain⟨o,rc,h',e,rfl,k,v,rfl,q⟩:=key;exact⟨v,h',e,k,q⟩
theorem afP (hK:aZ K)(km:KM K)(kg:KG K)(ks:KS K)(eg:Eg env)(m:Nat)(hm:100000010<=m){gs:List NV}{ts:List T}(g:Wg (Mst gs ts))(x:Int):
  ∃ v h',cS K m (.fn 15 [] []) [.ls (env.map bW),.agg [.ls (gs.map aT)],i_ x] .no h=some (.ret v,.no,h')/\HK h h'/\Ht (Ce env inst) gs ts x v:=by
 obtain⟨m,rfl⟩:∃ k,m=k+3:=⟨m-3,o_⟩
 have key:∃ v h',cS K (m+3) (.fn 15 [] []) [.ls (env.map bW),.agg [.ls (gs.map aT)],i_ x] .no h=some (.ret v,.no,h')/\(HK h h'/\Ht (Ce env inst) gs ts x v):=by
  refine bh hK aj7 (ae (jD env h) (ae (iA gs h) (ae (aG .i64 x h) (aC _)))) ?_;simp only[A_];obtain⟨H,hH⟩:∃ H:AH,H=((h.new (.box [.ls (gs.map aT)])).new (.box [i_ x])).new (.box [.nl]):=⟨_,rfl⟩
  have k0:HK h H:=by rw[hH];exact((HK.new _ _).add _).add _
  have n0:H.z=h.z+3:=by rw[hH];simp only[ala]
  have g4:H.get h.z=some (.box [.ls (gs.map aT)]):=by rw[hH,aL (by simp only[ala];omega),aL (by simp only[ala];omega),aE]
  have g5:H.get (h.z+1)=some (.box [i_ x]):=by
   rw[hH,aL (by simp only[ala];omega)];have:h.z+1=(h.new (.box [.ls (gs.map aT)])).z:=by simp only[ala]
   rw[this,aE]
  have g6:H.get (h.z+1+1)=some (.box [.nl]):=by
   rw[hH];have:h.z+1+1=((h.new (.box [.ls (gs.map aT)])).new (.box [i_ x])).z:=by simp only[ala]
   rw[this,aE]
  have hb:∀ H:AH,dB H 1 (.agg [.ls (gs.map aT)])=.val (.ptr H.z 0 0) (H.new (.box [.ls (gs.map aT)])):=fun H=>bN _ 1 rfl
  have hb2:∀ H:AH,dB H 1 (i_ x)=.val (.ptr H.z 0 0) (H.new (.box [i_ x])):=fun H=>(rfl)
  obtain⟨v,H1,e1,k1,hv⟩:=c1029 (h:=H) hK km kg ks eg m o_ g x g5 o_;have g61:=(k1.kw _ o_).trans g6;obtain⟨gs',r,e,rfl⟩:∃ gs':List NV,∃ r e:Int,v=.tup [.agg [.ls (gs'.map aT)],i_ r,i_ e]:=by
   rcases hv with⟨_,rfl⟩|rfl|⟨gs',_,r,_,_,rfl,_⟩
   ·exact⟨[],_,_,rfl⟩
   ·exact⟨[],_,_,rfl⟩
   ·exact⟨gs',r,_,rfl⟩
  unfold ahj;simp only[go_sem,simprocAttr,hb,hb2,ala];rw[<- hH];clear hH;simp only[go_sem,simprocAttr,Oa,g4,g5,e1,g61];refine⟨rfl,rfl,.inr rfl,[.agg [.ls (gs'.map aT)],i_ r,i_ e],?_,.tup [.agg [.ls (gs'.map aT)],i_ r,i_ e],_,bz (ae (iA _ _) (ae (aG _ _ _) (ae (aG _ _ _) (aC _)))),(k0.trans k1).set _ o_,hv⟩;simp only[go_sem,simprocAttr,afl]
 obtain⟨v,h',e,k,q⟩:=key;exact⟨v,h',e,k,q⟩
end
section
variable {K:aQ}{h:AH}
theorem c116 (hK:aZ K)(m:Nat)(k:Int):cS K (m+1) (.fn 164 [] []) [i_ k] .no h=some (.ret (i_ (dW k)),.no,h):=by
 obtain⟨v,h',e,rfl,rfl⟩:=bh (m:=m) (c:=[]) (a:=[i_ k]) (h:=h) (P:=fun v h'=>v=i_ (dW k)/\h'=h) hK cf116 (ae (aG _ _ _) (aC _)) (by
  simp only[A_];unfold b116
  repeat' (first|simp only[go_sem,simprocAttr, *,YH,YG]|refine mC (fun _=>?_) fun _=>?_|refine pI (fun _=>?_) fun _=>?_|refine pJ (fun _=>?_) fun _=>?_)
  all_goals (refine⟨by rfl,by rfl,.inr rfl,[_],by simp only[go_sem,simprocAttr,r116];rfl,_,_,aS (by intro l e;cases e) (aG _ _ _),?_,rfl⟩;simp_all [dW]))
 exact e
theorem c72 (hK:aZ K)(m:Nat)(k j:Int):cS K (m+1) (.fn 128 [] []) [i_ k,i_ j] .no h=some (.ret (i_ (cq k j)),.no,h):=by
 obtain⟨v,h',e,rfl,rfl⟩:=bh (m:=m) (c:=[]) (a:=[i_ k,i_ j]) (h:=h) (P:=fun v h'=>v=i_ (cq k j)/\h'=h) hK cf72 (ae (aG _ _ _) (ae (aG _ _ _) (aC _))) (by
  simp only[A_];unfold b72
  repeat' (first|simp only[go_sem,simprocAttr, *,aef,aee]|refine mC (fun _=>?_) fun _=>?_|refine pI (fun _=>?_) fun _=>?_|refine pJ (fun _=>?_) fun _=>?_)
  all_goals (refine⟨by rfl,by rfl,.inr rfl,[_],by simp only[go_sem,simprocAttr,r72];rfl,_,_,aS (by intro l e;cases e) (aG _ _ _),?_,rfl⟩;simp_all [cq]))
 exact e
theorem c117 (hK:aZ K)(m:Nat)(c:Int):cS K (m+1) (.fn 165 [] []) [.int .u8 c] .no h=some (.ret (.bool (mQ c)),.no,h):=by
 obtain⟨v,h',e,rfl,rfl⟩:=bh (m:=m) (c:=[]) (a:=[.int .u8 c]) (h:=h) (P:=fun v h'=>v=.bool (mQ c)/\h'=h) hK cf117 (ae (aG _ _ _) (aC _)) (by
  simp only[A_];unfold b117
  repeat' (first|simp only[go_sem,simprocAttr, *,YF]|refine mC (fun _=>?_) fun _=>?_|refine pI (fun _=>?_) fun _=>?_|refine pJ (fun _=>?_) fun _=>?_)
  all_goals (refine⟨by rfl,by rfl,.inr rfl,[_],by simp only[go_sem,simprocAttr,r117];rfl,_,_,aS (by intro l e;cases e) (aW _ _),?_,rfl⟩;first|(simp_all [mQ];done)|(simp_all [mQ];omega)))
 exact e
structure PreV (l:LL)(p:Nat):Prop where
 rng:∀ (i:Nat) x,i<p->l.vars[i]?=some x->Rng x
 ord:∀ (i:Nat) x y,i+1<p->l.vars[i]?=some x->l.vars[i+1]?=some y->x.idx<y.idx
 cov:0<l.c->∀ (i:Nat) x,i<p->l.vars[i]?=some x->x.plus<l.c
def I21 (l:LL)(b:Nat)(h0:AH)(j:Nat)(fr:AF)(h:AH):Prop:=∃ tm p,p+j=l.vars.length/\fr=⟨tm,⟨[],.no,none,163⟩⟩/\HK h0 h/\b<h.z/\h.get b=some (.box [i_ l.c,.ls (l.vars.map bV)])/\
  nth tm 1=.ptr b 0 0/\nth tm 3=i_ (p:Int)/\PreV l p
theorem c21 (hK:aZ K)(m:Nat)(l:LL)(hl:l.vars.length<10000000):
  ∃ v h',cS K (m+1) (.fn 163 [] []) [ba l] .no h=some (.ret v,.no,h')/\(∃ b,v=.bool b/\(b=true↔VL l))/\HK h h':=by
 refine bh hK cf21 (ae (jz l h) (aC _)) ?_;obtain⟨H,hH⟩:∃ H:AH,H=h.new (.box [i_ l.c,.ls (l.vars.map bV)]):=⟨_,rfl⟩
 have k0:HK h H:=by rw[hH];exact HK.new _ _
 have n0:H.z=h.z+1:=by rw[hH,ala]
 have g0:H.get h.z=some (.box [i_ l.c,.ls (l.vars.map bV)]):=by rw[hH,aE]
 have no:∀ (tm:Tm) (H1:AH),HK h H1->¬ VL l->nth tm 2=.bool false->IQ r21 (fun v h2=>∃ v' h3,cG v h2=(v',h3)/\(∃ b,v'=.bool b/\(b=true↔VL l))/\HK h h3) .ret ⟨tm,⟨[],.no,none,163⟩⟩ H1:=by
  intro tm H1 hk hv t2;exact⟨rfl,rfl,.inr rfl,[.bool false],by simp only[go_sem,simprocAttr,r21,t2],.bool false,_,aS (by intro l e;cases e) (aW _ _),⟨false,rfl,by simp[hv]⟩,hk⟩
 unfold b21;simp only[go_sem,simprocAttr,pB];rw[<- hH];clear hH;by_cases hc:l.c<0∨l.c > 100
 ·have hv:¬ VL l:=fun v=>by have:=v.c0;have:=v.c1;omega
  by_cases h1:l.c<0
  ·have d1:decide (l.c<0)=true:=T_ h1;simp only[go_sem,simprocAttr,Ty,g0,d1];exact no _ H k0 hv k_
  ·have d1:decide (l.c<0)=false:=D_ h1;have d2:decide (l.c > 100)=true:=t_;simp only[go_sem,simprocAttr,Ty,g0,d1,d2];exact no _ H k0 hv k_
 ·have d1:decide (l.c<0)=false:=d_;have d2:decide (l.c > 100)=false:=d_;simp only[go_sem,simprocAttr,Ty,g0,d1,d2,aeT];refine bB (I21 l h.z h) l.vars.length o_ ⟨_,0,z_ _,rfl,k0,o_,g0,k_,k_,⟨o_,o_,o_⟩⟩ ?_;rintro j fr H2 ⟨tm,p,hp,rfl,hk2,hn2,hg2,t1,t3,pre⟩;unfold af2;simp only[go_sem,simprocAttr,t1,t3,hg2,L_];refine aX (fun hlt=>?_) (fun hge=>?_)
  ·have hlt:p<l.vars.length:=o_;have hget:l.vars[p]?=some l.vars[p]:=a_ hlt;have ha:=fun h=>aK cV hget .i64 h
   have ele:=gi l.vars[p];have hw:=aP p o_;obtain⟨H3,hH3⟩:∃ H3:AH,H3=(H2.new (.box [i_ 0,i_ 0])).set H2.z (.box [i_ l.vars[p].idx,i_ l.vars[p].plus]):=⟨_,rfl⟩
   have k3:HK H2 H3:=by rw[hH3];exact HK.new_set _ _ _
   have g3:H3.get H2.z=some (.box [i_ l.vars[p].idx,i_ l.vars[p].plus]):=by rw[hH3,aH]
   have n3:H3.z=H2.z+1:=by rw[hH3,alb,ala]
   have g13:=(k3.kw _ hn2).trans hg2;have hv:bV l.vars[p]=.agg [i_ l.vars[p].idx,i_ l.vars[p].plus]:=rfl;simp only[go_sem,simprocAttr,aeU,t1,t3,hg2,ha,hv];rw[<- hH3];clear hH3;have hk3:=hk2.trans k3;by_cases hr:Rng l.vars[p]
   ·obtain⟨r1,r2,r3,r4⟩:=hr;have e1:decide (l.vars[p].idx < -65536)=false:=d_;have e2:decide (l.vars[p].idx≥8)=false:=d_;have e3:decide (l.vars[p].plus<0)=false:=d_;have e4:decide (l.vars[p].plus > 100)=false:=d_;have fin:∀ (tm':Tm),nth tm' 1=.ptr h.z 0 0->nth tm' 3=i_ (p:Int)->nth tm' 4=.ptr H2.z 0 0->(∀ (i:Nat) x y,i+1<p+1->l.vars[i]?=some x->l.vars[i+1]?=some y->x.idx<y.idx)->
      R (cS K m) 1000000000000 [.code Ha,.out 1,.code (.region [⟨some 18,.mv (.t 3),none⟩,⟨some 19,.bin .add .num (.t 18) (.c (i_ 1)),none⟩,⟨some 3,.mv (.t 19),none⟩])] (LQ (cS K m) 1000000000000 (I21 l h.z h) j [.out 0,.code aag] (IQ r21 fun v h2=>∃ v' h3,cG v h2=(v',h3)/\(∃ b,v'=.bool b/\(b=true↔VL l))/\HK h h3)) .normal ⟨tm',⟨[],.no,none,163⟩⟩ H3:=by
     intro tm' t1 t3 t4 ho;have nxt:(0<l.c->l.vars[p].plus<l.c)->PreV l (p+1):=fun hcv=>⟨fun i x hi hx=>by
       by_cases q:i=p
       ·subst q;rw[hget]at hx;cases hx;exact⟨r1,r2,r3,r4⟩
       ·exact pre.rng i x o_ hx,ho,fun h0 i x hi hx=>by
       by_cases q:i=p
       ·subst q;rw[hget]at hx;cases hx;exact hcv h0
       ·exact pre.cov h0 i x o_ hx⟩
     by_cases hc0:l.c > 0
     ·have d5:decide (l.c > 0)=true:=T_ hc0;by_cases hcv:l.vars[p].plus≥l.c
      ·have d6:decide (l.vars[p].plus≥l.c)=true:=T_ hcv;simp only[go_sem,simprocAttr,Ha,t1,t4,g13,g3,d5,d6];exact no _ H3 hk3 (fun v=>by have:=v.cov hc0 p _ hget;omega) k_
      ·have d6:decide (l.vars[p].plus≥l.c)=false:=D_ hcv;simp only[go_sem,simprocAttr,Ha,t1,t4,g13,g3,d5,d6,t3,hw];exact⟨j-1,o_,_,p+1,o_,rfl,hk3,o_,g13,q_ t1,k_,nxt fun _=>by omega⟩
     ·have d5:decide (l.c > 0)=false:=D_ hc0;simp only[go_sem,simprocAttr,Ha,t1,g13,d5,t3,hw];exact⟨j-1,o_,_,p+1,o_,rfl,hk3,o_,g13,q_ t1,k_,nxt fun h=>absurd h hc0⟩
    cases p with
    |zero=>
     have hd:decide (((0:Nat):Int) > 0)=false:=by simp
     simp only[go_sem,simprocAttr,wW,g3,e1,e2,e3,e4,Tz,t3];exact fin _ (q_ t1) (q_ t3) k_ (fun i x y hi=>by omega)
    |succ q=>
     have hgp:l.vars[q]?=some l.vars[q]:=a_ o_;have hap:=fun h=>aK cV hgp .i64 h
     have hvp:bV l.vars[q]=.agg [i_ l.vars[q].idx,i_ l.vars[q].plus]:=rfl;have hw3:IntKind.wrap .i64 (((q+1:Nat):Int)-1)=(q:Int):=by rw[bI _ o_ o_];omega
     have hd:decide (((q+1:Nat):Int) > 0)=true:=t_;by_cases ho:l.vars[q].idx≥l.vars[q+1].idx
     ·have e5:decide (l.vars[q].idx≥l.vars[q+1].idx)=true:=T_ ho;simp only[go_sem,simprocAttr,wW,g3,g13,t1,e1,e2,e3,e4,Tz,t3,hd,hw3,hap,hvp,e5];exact no _ H3 hk3 (fun v=>by have:=v.ord q _ _ hgp hget;omega) k_
     ·have e5:decide (l.vars[q].idx≥l.vars[q+1].idx)=false:=D_ ho;simp only[go_sem,simprocAttr,wW,g3,g13,t1,e1,e2,e3,e4,Tz,t3,hd,hw3,hap,hvp,e5];refine fin _ (q_ t1) (q_ t3) k_ (fun i x y hi hx hy=>?_);by_cases qi:i=q
      ·subst qi;rw[hgp]at hx;rw[hget]at hy;cases hx;cases hy;omega
      ·exact pre.ord i x y o_ hx hy
   ·have hv:¬ VL l:=fun v=>hr (v.rng p _ hget)
    by_cases q1:l.vars[p].idx < -65536
    ·have e1:decide (l.vars[p].idx < -65536)=true:=T_ q1;simp only[go_sem,simprocAttr,wW,g3,e1];exact no _ H3 hk3 hv k_
    ·have e1:decide (l.vars[p].idx < -65536)=false:=D_ q1;by_cases q2:l.vars[p].idx≥8
     ·have e2:decide (l.vars[p].idx≥8)=true:=T_ q2;simp only[go_sem,simprocAttr,wW,g3,e1,e2];exact no _ H3 hk3 hv k_
     ·have e2:decide (l.vars[p].idx≥8)=false:=D_ q2;by_cases q3:l.vars[p].plus<0
      ·have e3:decide (l.vars[p].plus<0)=true:=T_ q3;simp only[go_sem,simprocAttr,wW,g3,e1,e2,e3];exact no _ H3 hk3 hv k_
      ·have e3:decide (l.vars[p].plus<0)=false:=D_ q3;have e4:decide (l.vars[p].plus > 100)=true:=T_ (by unfold Rng at hr;omega);simp only[go_sem,simprocAttr,wW,g3,e1,e2,e3,e4];exact no _ H3 hk3 hv k_
  ·have hpp:p=l.vars.length:=o_;subst hpp;simp only[go_sem,simprocAttr,aag];have lt:∀ {i:Nat} {x},l.vars[i]?=some x->i<l.vars.length:=fun e=>(E_.1 e).1
   have vl:VL l:=⟨o_,o_,fun i x e=>pre.rng i x (lt e) e,fun i x y e e'=>pre.ord i x y (lt e') e e',fun h0 i x e=>pre.cov h0 i x (lt e) e⟩;exact⟨rfl,rfl,.inr rfl,[.bool true],by simp only[go_sem,simprocAttr,r21],.bool true,_,aS (by intro l e;cases e) (aW _ _),⟨true,rfl,by simp[vl]⟩,hk2⟩
end
def uk (s:ByteArray):Prop:=(∀ c∈s.data.toList,sP c)/\s.size<=64
theorem Vl {c:UInt8}(h:mQ (c.toNat:Int)=true∨(c.toNat:Int)=46∨(c.toNat:Int)=39∨(48<=(c.toNat:Int)/\(c.toNat:Int)<=57)):sP c:=by
 rcases h with h|h|h|h
 ·exact .inl h
 ·exact .inr (.inl (UInt8.toNat_inj.1 (by show c.toNat=46;omega)))
 ·exact .inr (.inr (.inl (UInt8.toNat_inj.1 (by show c.toNat=39;omega))))
 ·refine .inr (.inr (.inr ⟨?_,?_⟩))
  ·rw[UInt8.le_iff_toNat_le];show 48<=c.toNat;omega
  ·rw[UInt8.le_iff_toNat_le];show c.toNat<=57;omega
theorem QH (s:ByteArray)(m:Nat)(hm:m<s.data.toList.length):mH (.str s) (i_ (m:Int))=some (.int .u8 ((s.data.toList[m]'hm).toNat:Int)):=by
 show aD (pT m s.data.toList) _=_;rw[ie,a_ hm];rfl
section
variable {K:aQ}{h:AH}
def isNm (s:ByteArray)(h0:AH)(v:AV)(h':AH):Prop:=(∃ b,v=.bool b/\(b=true->uk s))/\h'=h0
def I70 (s:ByteArray)(h0:AH)(j:Nat)(fr:AF)(h:AH):Prop:=∃ tm m b,m+j=s.size/\fr=⟨tm,⟨[],.no,none,126⟩⟩/\h=h0/\nth tm 0=.str s/\nth tm 3=.bool b/\nth tm 4=i_ (m:Int)/\∀ (i:Nat) c,i<m->s.data.toList[i]?=some c->sP c
theorem c70 (hK:aZ K)(m:Nat)(s:ByteArray)(hs:s.size<10000000):
  ∃ v h',cS K (m+2) (.fn 126 [] []) [.str s] .no h=some (.ret v,.no,h')/\isNm s h v h':=by
 refine bh hK cf70 (ae (gK _ _) (aC _)) ?_;have no:∀ (tm:Tm),nth tm 2=.bool false->IQ r70 (fun v h2=>∃ v' h3,cG v h2=(v',h3)/\isNm s h v' h3) .ret ⟨tm,⟨[],.no,none,126⟩⟩ h:=by
  intro tm t2;exact⟨rfl,rfl,.inr rfl,[.bool false],by simp only[go_sem,simprocAttr,r70,t2],.bool false,_,aS (by intro l e;cases e) (aW _ _),⟨⟨false,rfl,by simp⟩,rfl⟩⟩
 have hc:=fun c h=>c117 (h:=h) hK m c
 unfold b70;by_cases h1:(s==bs [])=true
 ·simp only[go_sem,simprocAttr,Tw,h1];exact no _ k_
 ·have h1:(s==bs [])=false:=by simpa using h1
  by_cases h2:(s.size:Int) > 64
  ·have d2:decide ((s.size:Int) > 64)=true:=T_ h2;simp only[go_sem,simprocAttr,Tw,h1,d2];exact no _ k_
  ·have d2:decide ((s.size:Int) > 64)=false:=D_ h2;simp only[go_sem,simprocAttr,Tw,h1,d2,aek,ael];refine bB (I70 s h) s.size o_ ⟨_,0,true,z_ _,rfl,rfl,k_,k_,k_,fun i c hi=>by omega⟩ ?_;rintro j fr H ⟨tm,p,b,hp,rfl,rfl,t0,t3,t4,hpre⟩;unfold afU;simp only[go_sem,simprocAttr,t0,t4];refine aX (fun hlt=>?_) (fun hge=>?_)
   ·have hlt:p<s.data.toList.length:=by
                         have:s.data.toList.length=s.size:=by simp
                         omega
    have hb:=QH s p hlt;have hget:s.data.toList[p]?=some s.data.toList[p]:=a_ hlt;have hw:=aP p o_;revert hb hget;generalize s.data.toList[p]=c;intro hb hget;have nxt:∀ (tm':Tm) (b':Bool),nth tm' 0=.str s->nth tm' 3=.bool b'->nth tm' 4=i_ ((p+1:Nat):Int)->(mQ (c.toNat:Int)=true∨(c.toNat:Int)=46∨(c.toNat:Int)=39∨(48<=(c.toNat:Int)/\(c.toNat:Int)<=57))->
      ∃ j',j'<j/\I70 s H j' ⟨tm',⟨[],.no,none,126⟩⟩ H:=fun tm' b' q0 q3 q4 hn=>⟨j-1,o_,tm',p+1,b',o_,rfl,rfl,q0,q3,q4,fun i x hi hx=>by
       by_cases q:i=p
       ·subst q;rw[hget]at hx;cases hx;exact Vl hn
       ·exact hpre i x o_ hx⟩
    simp only[go_sem,simprocAttr,aen,t0,t4,hb,aeo,t3];cases b with
    |true=>
     simp only[go_sem,simprocAttr,hc];cases hl:mQ (c.toNat:Int) with
     |true=>
      simp only[go_sem,simprocAttr,t4,hw];exact nxt _ false (q_ t0) k_ k_ (.inl hl)
     |false=>
      simp only[go_sem,simprocAttr];exact no _ k_
    |false=>
     simp only[go_sem,simprocAttr,aep];refine aX (fun h46=>?_) (fun h46=>?_)
     ·simp only[go_sem,simprocAttr,t4,hw];exact nxt _ true (q_ t0) k_ k_ (.inr (.inl h46))
     ·simp only[go_sem,simprocAttr,aeq,hc];cases hl:mQ (c.toNat:Int) with
      |true=>
       simp only[go_sem,simprocAttr,t4,hw];exact nxt _ false (q_ t0) (q_ t3) k_ (.inl hl)
      |false=>
       by_cases h39:(c.toNat:Int)=39
       ·have d39:decide ((c.toNat:Int)=39)=true:=T_ h39;simp only[go_sem,simprocAttr,d39,t4,hw];exact nxt _ false (q_ t0) (q_ t3) k_ (.inr (.inr (.inl h39)))
       ·have d39:decide ((c.toNat:Int)=39)=false:=D_ h39;by_cases h48:(c.toNat:Int)<48
        ·have d48:decide ((c.toNat:Int)<48)=true:=T_ h48;simp only[go_sem,simprocAttr,d39,d48];exact no _ k_
        ·have d48:decide ((c.toNat:Int)<48)=false:=D_ h48;by_cases h57:(c.toNat:Int) > 57
         ·have d57:decide ((c.toNat:Int) > 57)=true:=T_ h57;simp only[go_sem,simprocAttr,d39,d48,d57];exact no _ k_
         ·have d57:decide ((c.toNat:Int) > 57)=false:=D_ h57;simp only[go_sem,simprocAttr,d39,d48,d57,t4,hw];exact nxt _ false (q_ t0) (q_ t3) k_ (.inr (.inr (.inr ⟨o_,o_⟩)))
   ·have hpp:p=s.size:=o_;subst hpp;simp only[go_sem,simprocAttr,aem,t3];refine⟨rfl,rfl,.inr rfl,[.bool (!b)],by simp only[go_sem,simprocAttr,r70],.bool (!b),_,aS (by intro l e;cases e) (aW _ _),⟨⟨!b,rfl,fun _=>⟨fun c hc=>?_,o_⟩⟩,rfl⟩⟩;obtain⟨i,hi⟩:=List.getElem?_of_mem hc;have hil:=(E_.1 hi).1;exact hpre i c (by
              have:s.data.toList.length=s.size:=by simp
              omega) hi
end
