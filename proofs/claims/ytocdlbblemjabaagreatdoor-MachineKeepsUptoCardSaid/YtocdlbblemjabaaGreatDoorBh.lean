/- MachineKeeps: contracting a function by cases (no condition). -/
import Derived.Test.YtocdlbblemjabaaGreatDoorBg
namespace Go.Proofs.YtocdlbblemjabaaGreatDoor
open Go.AG Go.AG.MK
theorem Bz {base sz:Nat}{agg:Bool}{h:AH}{V:AV}{out:List AV}(o:Own base sz agg h V out):∀ k g n,V=.row k g sz 0 n->base<=k/\k<h.z:=by
 intro k g n e;subst e;obtain⟨_,⟨e,_⟩|⟨k',g',e,_,q3,q4⟩⟩:=o
 ·cases e
 ·cases e;exact⟨q4,q3⟩
theorem abz {C:MK.Cx}{nm:ByteArray}{ls:List LL}{arity:Nat}{tree:eY}(hc:C.cst nm ls.length=.fn arity tree)(W:T->Option T)(i:Int)(ks as_:List T):MK.step C W (.mk 3 i nm ls ks) as_=if as_.length<arity then some (.stuck (.mk 3 i nm ls ks) as_) else
   match mtT C W tree (as_.take arity) with
   |none=>none
   |some none=>some (.stuck (.mk 3 i nm ls ks) as_)
   |some (some (body,vars))=>match C.inst body ls with
    |none=>some (.stuck (.mk 3 i nm ls ks) as_)
    |some x=>some (.next (jB vars.reverse x 0) (as_.drop arity)):=by
 rw[Tt,hc];rfl
theorem OG (C:MK.Cx)(W:T->Option T)(nm:ByteArray)(vars:List T):∀ l:List Br,mtB C W l nm vars=match chs nm l with
  |none=>some none
  |some (ab,t)=>if ab then some none else mtT C W t vars
 |[]=>by unfold mtB chs;rfl
 |.mk c a t::l=>by
  unfold mtB chs;by_cases h:c=nm
  ·rw[P_ h,P_ h]
  ·rw[N_ h,N_ h];exact OG C W nm vars l
theorem Vm (C:MK.Cx)(W:T->Option T)(t:eY)(vars:List T)(h:¬ jO t=1):mtT C W t vars=some (some (fX t,vars)):=by
 obtain⟨k,b,v,l⟩:=t;unfold mtT;exact N_ h
theorem tn (C:MK.Cx)(W:T->Option T)(t:eY)(vars:List T)(h:jO t=1):mtT C W t vars=if 0<=gu t then
    match vars[(gu t).toNat]? with
    |none=>some none
    |some x=>match W x with
     |none=>none
     |some c=>match dy C c with
      |none=>some none
      |some d=>mtB C W (cy t) d.name (vars++d.fields)
   else some none:=by
 obtain⟨k,b,v,l⟩:=t;unfold mtT;exact P_ h
theorem GO {t:eY}{n:Nat}(h:To t n):TOK (fX t)/\size (fX t)<50000/\(cy t).length<1000/\Tp (cy t) n:=by
 obtain⟨k,b,v,l⟩:=t;unfold To at h;exact h
theorem VP (d:DV)(h:AH):cp (.vptr (.agg (aM d))) h 22 1 false=.val (.vptr (.ls (d.funs.map fQ))) h:=rfl
theorem wL (c:CtV)(h:AH):cp (.vptr (.agg (nU c))) h 0 1 false=.val (.vptr (.str c.name)) h:=rfl
section
variable {K:aQ}{A:Ma}{B B1:Nat}{env:List DV}{M:Ms}{gN gF:Nat}{h:AH}{inst:T->List LL->Option T}
structure J1106 (A:Ma)(B B1:Nat)(env:List DV)(inst:T->List LL->Option T)(M:Ms)(nv:NV)(f:FnV)(as_:List T)(b5 b11 b13 base:Nat)(h0 h:AH)(M':Ms)(gN gF:Nat)(t:eY)(n:Nat)(V:AV)(vids:List Int)(vts:List T):Prop where
 gs:Gs A B B1 (.ls (env.map bW)) M h0 h M' gN gF
 mx:Mx (Ce env inst) M M'
 tr:To t n
 g5:h.get b5=some (.box [i_ nv.kind,i_ nv.idx,.str nv.name,.ls (nv.L.map ba),.ls (nv.K.map AG.aO)])
 g11:h.get b11=some (.box (iP f))
 g13:h.get b13=some (.box (bu t))
 own:Own base 1 false h V (vids.map AG.aO)
 vk:∀ k g n,V=.row k g 1 0 n->k≠b13
 lk:Lk M'.ts vids vts
 len:vids.length+400*n<=20016
 lt:B1<=b5/\B1<=b11/\B1<=b13/\b5<h.z/\b11<h.z/\b13<h.z/\b5<base/\b11<base/\b5≠b13/\b11≠b13/\B1<=base/\h0.z<=b5/\h0.z<=b11/\h0.z<=b13/\h0.z<=base
 mt:∃ k0,∀ k,k0<=k->mtT (Ce env inst) (Wn (Ce env inst) k) f.tree (as_.take f.arity.toNat)=mtT (Ce env inst) (Wn (Ce env inst) k) t vts
def I1106 (A:Ma)(B B1:Nat)(env:List DV)(inst:T->List LL->Option T)(M:Ms)(nv:NV)(f:FnV)(ids:List Int)(as_:List T)(b5 b11 b13 base:Nat)(h0:AH)(j:Nat)(fr:AF)(h:AH):Prop:=∃ tm M' gN gF t V vids vts,fr=⟨tm,⟨[],.no,none,106⟩⟩/\
 nth tm 0=.ptr A.a 0 0/\nth tm 3=.ls (ids.map AG.aO)/\nth tm 5=.ptr b5 0 0/\nth tm 11=.ptr b11 0 0/\nth tm 12=V/\nth tm 13=.ptr b13 0 0/\J1106 A B B1 env inst M nv f as_ b5 b11 b13 base h0 h M' gN gF t j V vids vts
theorem c1106 (hK:aZ K)(km:KM K)(eg:Eg env){m m0:Nat}{v0:Int}(wq:Wq K A B B1 (.ls (env.map bW)) (Ce env inst) m v0)(ci:Ci K A B B1 (.ls (env.map bW)) inst m0)(hm0:m0<=m)(hm:262300<=m)
  (s:St A B B1 (.ls (env.map bW)) M gN gF h) (g:Wg M) (c:Ct M) (mem:Mem (Ce env inst) M) (hv:v0<=M.vis) {nv:NV} {ks:List T} (nok:NOK nv) (hk:nv.kind=3) {n i:Nat} {d:DV} {f:FnV} {p:Int} {ty:T} (hd:env[n]?=some d) (hf:d.funs[i]?=some f)
  (hc:Tl env nv.name nv.L.length=.fn f.arity.toNat f.tree) {ids:List Int} {as_:List T} (lk:Lk M.ts ids as_) (_hl:ids.length<9000000000) :
  Mc K (m+1) A B B1 (.ls (env.map bW)) (106) [] [.ptr A.a 0 0,aT nv,rq ⟨6,n,i,p,ty⟩,.ls (ids.map AG.aO)] M h fun M' v=>Mx (Ce env inst) M M'/\UR (Ce env inst) M' (ndT nv ks) as_ v:=by
 refine fG hK ajm (ae (bD _ _ _ _) (ae (jT _ _) (ae (zj _ _) (ae (dM _ _) (aC _))))) ?_;have b1:=s.b1;have ra:=s.ok.rng.1;have dm:=m_ hd;have dg:=eg.dg d dm;have hlen:=lk.len;obtain⟨ar1,ar2,tok_⟩:=dg.funs f (m_ hf);have hcC:(Ce env inst).cst nv.name nv.L.length=_:=hc;have hnd:ndT nv ks=.mk 3 nv.idx nv.name nv.L ks:=by unfold ndT;rw[hk]
 have hstep:=fun W=>abz hcC W nv.idx ks as_
 rw[<- hnd]at hstep;have hbx:∀ h:AH,dB h 5 (aT nv)=.val (.ptr h.z 0 0) (h.new (.box (aT nv).cells)):=fun h=>bN _ 5 rfl
 have hbe:∀ h:AH,dB h 9 (.agg (bo ⟨6,n,i,p,ty⟩))=.val (.ptr h.z 0 0) (h.new (.box (bo ⟨6,n,i,p,ty⟩))):=fun h=>bN _ 9 rfl
 obtain⟨H0,hH⟩:∃ H:AH,H=(h.new (.box (aT nv).cells)).new (.box (bo ⟨6,n,i,p,ty⟩)):=⟨_,rfl⟩
 have n1:=ala h (.box (aT nv).cells);have k0:HK h H0:=by rw[hH];exact(HK.new _ _).add _
 have n0:H0.z=h.z+2:=by rw[hH,ala,n1]
 have g5:H0.get h.z=some (.box (aT nv).cells):=by rw[hH,aL o_,aE]
 have g6:H0.get (h.z+1)=some (.box (bo ⟨6,n,i,p,ty⟩)):=by rw[hH,<- n1,aE]
 have stuck:∀ (tm:Tm) (H2:AH) (M':Ms) (gN' gF':Nat),nth tm 8=i_ 0->nth tm 9=.nl->nth tm 10=.bool false->HM B B1 h H2->St A B B1 (.ls (env.map bW)) M' gN' gF' H2->Wg M'->Le M M'->Mx (Ce env inst) M M'->(∃ k,MK.step (Ce env inst) (Wn (Ce env inst) k) (ndT nv ks) as_=some (.stuck (ndT nv ks) as_))->
   XQ (cS K m) TE (ru (PM B B1 h fun v h'=>Gq A B B1 (.ls (env.map bW)) M h' fun M'=>Mx (Ce env inst) M M'/\UR (Ce env inst) M' (ndT nv ks) as_ v)) .ret ⟨tm,⟨[],.no,none,106⟩⟩ H2:=by
  intro tm H2 M' gN' gF' t8 t9 t10 hm2 st g' le mx hs;exact mW (vs:=[i_ 0,.nl,.bool false]) (.inr rfl) (by simp only[go_sem,simprocAttr,TE,t8,t9,t10]) (bz (ae (aG _ _ _) (ae (dU _) (ae (aW _ _) (aC _))))) hm2 ⟨M',gN',gF',st,g',le,mx,.inl ⟨0,[],rfl,hs⟩⟩
 unfold agx;rw[fM];simp only[go_sem,simprocAttr,hbx,hbe,n1];rw[<- hH];clear hH;unfold aT at g5;simp only[AV.cells]at g5;let z15:List AV:=[.str (bs []),i_ 0,i_ 0,.str (bs []),.nl,.nl,i_ 0,i_ 0,i_ 0,i_ 0,.str (bs []),.nl,.nl,i_ 0,.nl]
 have gA0:=(s.hk (k0.trans (HK.new H0 (.box z15)))).gA;have g6z:=((HK.new H0 (.box z15)).kw (h.z+1) o_).trans g6;have hst:=bp (h:=H0.new (.box z15)) (vs:=iP f) (sz:=15) (aE _ _) rfl rfl;have ha:=fun h=>aK eL hd .i64 h
 have hb:=fun h=>aK gj hf .i64 h
 have hld:=fun h=>cI (v:=fQ f) (sz:=15) rfl rfl h
 have hlf:=fun h:AH=>uP (h:=h) (d.funs.map fQ)
 rw[cA]at ha;rw[EW]at hb hld;obtain⟨H1,hH1⟩:∃ H1:AH,H1=(H0.new (.box z15)).set H0.z (.box (iP f)):=⟨_,rfl⟩
 rw[<- hH1]at hst;have k1:HK H0 H1:=by rw[hH1];exact(HK.new _ _).set _ (e_ _)
 have g11:H1.get H0.z=some (.box (iP f)):=by rw[hH1,aH]
 have nx1:H1.z=H0.z+1:=by rw[hH1,alb,ala]
 clear hH1;have k01:=k0.trans k1;have s1:=s.hk k01;have gA1:=s1.gA;have g51:=(k1.kw _ o_).trans g5;have g61:=(k1.kw _ o_).trans g6;have g11c:=g11;unfold mL at gA0 gA1;unfold bo at g6z g61;unfold iP at g11c;simp only[z15]at gA0 g6z hst;obtain⟨an,han⟩:∃ an:Nat,f.arity=an:=⟨f.arity.toNat,o_⟩
 rw[han]at g11c;rw[han,Int.toNat_natCast]at hstep;simp only[go_sem,simprocAttr,DP,gA0,g6z,ha,VP,hlf,hb,hld,hst,DQ,g11c,L_];refine aX (fun hlt=>?_) (fun hge=>?_)
 ·simp only[go_sem,simprocAttr];refine stuck _ H1 M gN gF k_ k_ k_ (HK.m k01) s1 g (Le.refl M) (Mx.refl c mem) ⟨0,?_⟩;rw[hstep,P_ o_]
 ·have hsl:=fun h=>yh h ids (n:=an) o_
  obtain⟨V,H2,e2,o2,k2⟩:=c1147 hK (m-1) (ids.take an) (by intro e;have:=congrArg List.length e;rw[List.length_take,List.length_nil]at this;omega) (by rw[List.length_take];omega) H1;rw[show m-1+1=m by omega]at e2;have nx2:=k2.z;have g112:=(k2.kw _ o_).trans g11;have g52:=(k2.kw _ o_).trans g51;have ld8:cj (.ptr H0.z 0 7) H2 true 8=some (.agg (bu f.tree)):=by
   rw[eV,g112,aI,eU,lK _ _ _ (by show 7+8<=15;omega)];rfl
  have hst3:=bp (h:=H2.new (.box [i_ 0,i_ 0,i_ 0,.str (bs []),.nl,.nl,i_ 0,.nl])) (vs:=bu f.tree) (sz:=8) (aE _ _) rfl rfl;obtain⟨H3,hH3⟩:∃ H3:AH,H3=(H2.new (.box [i_ 0,i_ 0,i_ 0,.str (bs []),.nl,.nl,i_ 0,.nl])).set H2.z (.box (bu f.tree)):=⟨_,rfl⟩
  rw[<- hH3]at hst3;have k3:HK H2 H3:=by rw[hH3];exact(HK.new _ _).set _ (e_ _)
  have g13:H3.get H2.z=some (.box (bu f.tree)):=by rw[hH3,aH]
  have nx3:H3.z=H2.z+1:=by rw[hH3,alb,ala]
  clear hH3;have k03:=(k01.trans k2).trans k3;simp only[go_sem,simprocAttr,DT,g11c,hsl,e2,Kw,ld8,hst3,Kx];refine bB (I1106 A B B1 env inst M nv f ids as_ h.z H0.z H2.z H1.z h) 50 o_ ⟨_,M,gN,gF,f.tree,V,ids.take an,as_.take an,rfl,k_,k_,k_,k_,k_,k_,
   ⟨⟨s.hk k03,g,Le.refl M,HK.m k03⟩,Mx.refl c mem,tok_,(k3.kw _ o_).trans g52,(k3.kw _ o_).trans g112,g13,cd o2 k3.z (fun k q1 q2=>k3.kw k q2),(fun k g n e=>by have:=(Bz o2 k g n e).2;omega),lk.take an,by rw[List.length_take];omega,o_,⟨0,fun k _=>by rw[han,Int.toNat_natCast]⟩⟩⟩ ?_
  clear e2 o2 hst3 g13 ld8 g112 g52 hst;rintro j fr H4 ⟨tm,M4,gN4,gF4,t,V4,vids,vts,rfl,t0,t3,t5,t11,t12,t13,J⟩;obtain⟨tokB,szB,brl,brok⟩:=GO J.tr;have g13:=J.g13;have gs:=J.gs;have nx4:=gs.hm.z;obtain⟨l5,l11,l13,x5,x11,x13,y5,y11,y13,y113,lb,z5,z11,z13,zb⟩:=J.lt;obtain⟨k0_,hmt⟩:=J.mt;rw[han,Int.toNat_natCast]at hmt;have hlenV:=Ow J.own;rw[L_]at hlenV;have hge':¬ as_.length<an:=o_;have stuckAt:∀ k,k0_<=k->mtT (Ce env inst) (Wn (Ce env inst) k) t vts=some none->∃ k,MK.step (Ce env inst) (Wn (Ce env inst) k) (ndT nv ks) as_=some (.stuck (ndT nv ks) as_):=fun k hk0 e=>⟨k,by rw[hstep,N_ hge',hmt k hk0,e]⟩
  unfold bu gh at g13;unfold PR;simp only[go_sem,simprocAttr,t13,g13];by_cases hkind:jO t=1
  ·have dk:decide (jO t=1)=true:=T_ hkind;by_cases hv0:gu t<0
   ·have dv:decide (gu t<0)=true:=T_ hv0;simp only[go_sem,simprocAttr,dk,dv,t13,g13];refine stuck _ H4 M4 gN4 gF4 k_ k_ k_ gs.hm gs.st gs.g gs.le J.mx (stuckAt k0_ (e_ _) ?_);rw[tn _ _ _ _ hkind,N_ o_]
   ·have dv:decide (gu t<0)=false:=D_ hv0;obtain⟨vn,hvn⟩:∃ vn:Nat,gu t=vn:=⟨(gu t).toNat,o_⟩
    by_cases hv1:vids.length<=vn
    ·have dv1:decide ((vids.length:Int)<=gu t)=true:=t_;simp only[go_sem,simprocAttr,dk,dv,dv1,t12,t13,g13,hlenV];refine stuck _ H4 M4 gN4 gF4 k_ k_ k_ gs.hm gs.st gs.g gs.le J.mx (stuckAt k0_ (e_ _) ?_);rw[tn _ _ _ _ hkind,P_ o_,hvn,Int.toNat_natCast,List.getElem?_eq_none (by rw[<- J.lk.len];exact hv1)]
    ·have dv1:decide ((vids.length:Int)<=gu t)=false:=d_;have hlt5:vn<vids.length:=o_;have hget:vids[vn]?=some vids[vn]:=a_ hlt5;obtain⟨a,ea,aat⟩:=J.lk.get hget;revert hget aat;generalize vids[vn]=x;intro hget aat;obtain⟨kk,gg,hV,q2,q3,q4⟩:=sD J.own (by rw[L_];omega);rw[L_]at hV;have hi:=fun H=>ju (kk:=kk) (g:=gg) (sz:=1) (n:=vids.length) (a:=vn) hlt5 H .i64
     have hl1:=oK (a:=vn) (x:=AG.aO x) q2 (by rw[xO,List.getElem?_map,hget];rfl);rw[<- hV]at hi;unfold AG.aO at hl1;obtain⟨o5,H5,e5,hm5,q5⟩:=wq M4 gN4 gF4 H4 x a gs.st gs.g J.mx.ct J.mx.mem (Int.le_trans hv J.mx.vis) aat;have mtS:∀ W,mtT (Ce env inst) W t vts=match W a with
       |none=>none
       |some c=>match dy (Ce env inst) c with
        |none=>some none
        |some d=>mtB (Ce env inst) W (cy t) d.name (vts++d.fields):=fun W=>by
      rw[tn _ _ _ _ hkind,P_ o_,hvn,Int.toNat_natCast,ea]
     rw[hvn]at g13 dv dv1;simp only[go_sem,simprocAttr,dk,dv,dv1,t0,t12,t13,g13,hlenV,KC,hi,hl1];rcases q5 with⟨v,rfl,M5,gN5,gF5,st5,g5',le5,mx5,r5,u,rfl,au,k5,wh⟩|rfl
     ·obtain⟨v6,H6,e6,cr,k6⟩:=afG (inst:=inst) hK eg (m-5) st5 g5' au;rw[show m-5+5=m by omega]at e6;have nx5:=hm5.z;have nx6:=k6.z;have hm46:HM B B1 H4 H6:=hm5.trans (HK.m k6);have hm6:HM B B1 h H6:=gs.hm.trans hm46;have up6:∀ b,B1<=b->b<H4.z->H6.get b=H4.get b:=fun b q1 q2=>hm46.kw _ q2 (.inr q1)
      have g136:=(up6 _ l13 x13).trans J.g13;have g56:=(up6 _ l5 x5).trans J.g5;have g116:=(up6 _ l11 x11).trans J.g11;have st6:=st5.hk k6;have le45:=gs.le.trans le5;have mx45:=J.mx.trans mx5;have hW:∀ k,max k0_ k5<=k->Wn (Ce env inst) k a=some u:=fun k hk=>wV (Nat.le_trans (Nat.le_max_right _ _) hk) wh
      have own6:=cd J.own (h':=H6) o_ (fun b q1 q2=>up6 b o_ q2);cases hct:dy (Ce env inst) u with
      |none=>
       rw[hct]at cr;obtain⟨cs,j6,rfl,hcs⟩:=cr;have hst6:=bp (h:=H6.new (.box zD)) (vs:=cs) (sz:=23) (aE _ _) rfl hcs;unfold zD at hst6;simp only[go_sem,simprocAttr,e5,e6,hst6,si];refine stuck _ _ M5 gN5 gF5 k_ k_ k_ ((hm6.new _).set _ (.inl o_)) ((st6.new _).set _ o_) g5' le45 mx45 (stuckAt _ (Nat.le_max_left _ k5) ?_);rw[mtS,hW _ (e_ _)];simp only[hct]
      |some cv=>
       rw[hct]at cr;obtain⟨d2,fids,d2m,rfl,hfam,flk,⟨c2,hc2,hcn⟩,hfl⟩:=cr;have hst6:=bp (h:=H6.new (.box zD)) (vs:=aM d2) (sz:=23) (aE _ _) rfl rfl;obtain⟨H7,hH7⟩:∃ H7:AH,H7=(H6.new (.box zD)).set H6.z (.box (aM d2)):=⟨_,rfl⟩
       rw[<- hH7]at hst6;have k7:HK H6 H7:=by rw[hH7];exact(HK.new _ _).set _ (e_ _)
       have g14:H7.get H6.z=some (.box (aM d2)):=by rw[hH7,aH]
       have nx7:H7.z=H6.z+1:=by rw[hH7,alb,ala]
       clear hH7;have hm7:=hm6.trans (HK.m k7);have g137:=(k7.kw _ o_).trans g136;have ld13:=fk (sz:=8) g137 rfl;have hcl:=fun h=>aK fN hc2 .i64 h
       rw[wO]at hcl;have hls:=fun h:AH=>eB (h:=h) c2.name
       have mtC:∀ k,max k0_ k5<=k->mtT (Ce env inst) (Wn (Ce env inst) k) t vts=match chs c2.name (cy t) with
         |none=>some none
         |some (ab,t)=>if ab then some none else mtT (Ce env inst) (Wn (Ce env inst) k) t (vts++cv.fields):=fun k hk=>by
        rw[mtS,hW k hk];simp only[hct];rw[OG,hcn]
       obtain⟨v8,H8,e8,rfl,k8⟩:=c1148 hK (m-1) t c2.name H7 brl;rw[show m-1+1=m by omega]at e8;have nx8:=k8.z;have k68:=k7.trans k8;have hm8:=hm6.trans (HK.m k68);have g138:=(k68.kw _ o_).trans g136;have g58:=(k68.kw _ o_).trans g56;have g118:=(k68.kw _ o_).trans g116;have g148:=(k8.kw _ o_).trans g14;have own8:=cd own6 (h':=H8) o_ (fun b q1 q2=>k68.kw b q2);have st8:=st6.hk k68;unfold zD at hst6;unfold aM at g14 g148;cases hch:chs c2.name (cy t) with
       |none=>
        rw[hch]at e8 mtC;have st13:=bp (h:=H8) (k:=H2.z) (vs:=[i_ 0,i_ 0,i_ 0,.str (bs []),.ls [],.ls [],i_ 0,.ls []]) (sz:=8) g138 rfl rfl;unfold chV at e8;simp only[go_sem,simprocAttr,e5,e6,hst6,si,vC,t13,ld13,g14,hcl,wL,hls,e8,st13];refine stuck _ _ M5 gN5 gF5 k_ k_ k_ (hm8.set _ (.inl o_)) (st8.set _ o_) g5' le45 mx45 (stuckAt _ (Nat.le_max_left _ k5) ?_);exact mtC _ (e_ _)
       |some q=>
        obtain⟨ab,tr⟩:=q;rw[hch]at e8 mtC;have st13:=bp (h:=H8) (k:=H2.z) (vs:=bu tr) (sz:=8) g138 rfl rfl;obtain⟨jn,rfl,trok⟩:=Zg brok hch;unfold chV at e8;obtain⟨H9,hH9⟩:∃ H9:AH,H9=H8.set H2.z (.box (bu tr)):=⟨_,rfl⟩
        rw[<- hH9]at st13;have g139:H9.get H2.z=some (.box (bu tr)):=by rw[hH9,aH]
        have o9:∀ k,k≠H2.z->H9.get k=H8.get k:=fun k hk=>by rw[hH9,aB hk]
        have nx9:H9.z=H8.z:=by rw[hH9,alb]
        have hm9:HM B B1 h H9:=by rw[hH9];exact hm8.set _ (.inl o_)
        have st9:St A B B1 (.ls (env.map bW)) M5 gN5 gF5 H9:=by rw[hH9];exact st8.set _ o_
        clear hH9;cases ab with
        |true=>
         simp only[go_sem,simprocAttr,e5,e6,hst6,si,vC,t13,ld13,g14,hcl,wL,hls,e8,st13];refine stuck _ _ M5 gN5 gF5 k_ k_ k_ hm9 st9 g5' le45 mx45 (stuckAt _ (Nat.le_max_left _ k5) ?_);exact mtC _ (e_ _)
        |false=>
         have jlen:=J.len;have own9:=Rt own8 (h':=H9) o_ (fun k g n e q1 q2=>o9 k (J.vk k g n e));obtain⟨V10,H10,e10,o10,n10,kk10,kv10,kr10⟩:=ahl own9 o_ fids o_;have hbn:=fun k (q:k≠H2.z)=>(Bz J.own)
         have r10:∀ k,k<H1.z∨k=H2.z->H10.get k=H9.get k:=fun k hk=>kr10 k o_ (fun g n e=>by
          have q1:=Bz J.own k g n e;have q2:=J.vk k g n e;omega)
         have st10:St A B B1 (.ls (env.map bW)) M5 gN5 gF5 H10:=st9.up n10 (fun k _ q=>r10 k (.inl o_));have hm10:HM B B1 h H10:=⟨by have:=hm9.z;omega,fun k q1 q2=>(r10 k (.inl o_)).trans (hm9.kw k q1 q2)⟩;simp only[go_sem,simprocAttr,e5,e6,hst6,si,vC,t13,ld13,g14,hcl,wL,hls,e8,st13,t12,e10];refine⟨jn,o_,_,M5,gN5,gF5,tr,V10,vids++fids,vts++cv.fields,rfl,q_ t0,q_ t3,q_ t5,q_ t11,k_,q_ t13,
          ⟨⟨st10,g5',le45,hm10⟩,mx45,trok,?_,?_,?_,o10,?_,?_,?_,?_,⟨max k0_ k5,fun k hk=>?_⟩⟩⟩
         ·rw[r10 _ (.inl o_),o9 _ o_];exact g58
         ·rw[r10 _ (.inl o_),o9 _ o_];exact g118
         ·rw[r10 _ (.inr rfl)];exact g139
         ·intro k g n e;rcases kv10 k g n e with rfl|⟨g',n',e'⟩
          ·omega
          ·exact J.vk k g' n' e'
         ·exact(le5.lk J.lk).append flk
         ·rw[List.length_append];omega
         ·omega
         ·rw[han,Int.toNat_natCast,hmt k (Nat.le_trans (Nat.le_max_left _ _) hk)];exact mtC k hk
     ·simp only[go_sem,simprocAttr,e5];exact cB (gs.hm.trans hm5)
  ·have dk:decide (jO t=1)=false:=D_ hkind;have ldB:cj (.ptr H2.z 0 1) H4 true 5=some (.agg (aJ (fX t))):=by
    rw[eV,J.g13,aI,eU,lK _ _ _ (by show 1+5<=8;omega)];rfl
   have g5:=J.g5;obtain⟨o5,H5,e5,hm5,q5⟩:=ci m M4 gN4 gF4 H4 (fX t) nv.L hm0 gs.st gs.g tokB szB nok.nd.val (nok.nd.lev.2.1 hk);rw[dF]at e5;have hfin:∀ k,k0_<=k->MK.step (Ce env inst) (Wn (Ce env inst) k) (ndT nv ks) as_=match inst (fX t) nv.L with
     |none=>some (.stuck (ndT nv ks) as_)
     |some x=>some (.next (jB vts.reverse x 0) (as_.drop an)):=fun k hk0=>by
    rw[hstep,N_ hge',hmt k hk0,Vm _ _ _ _ hkind];rfl
   simp only[go_sem,simprocAttr,dk,Ky,t0,t5,t13,ldB,g5];rcases q5 with⟨v,rfl,M5,gN5,gF5,st5,g5',le5,sm5,iv⟩|rfl
   ·have mx5:=J.mx.trans (sm5.mx J.mx.ct J.mx.mem le5);have nx5:=hm5.z;have own5:=cd J.own (h':=H5) o_ (fun b q1 q2=>hm5.kw b q2 (.inr o_));unfold inV at iv;cases hi:inst (fX t) nv.L with
    |none=>
     rw[hi]at iv;subst iv;simp only[go_sem,simprocAttr,e5,Au];refine stuck _ H5 M5 gN5 gF5 k_ k_ k_ (gs.hm.trans hm5) st5 g5' (gs.le.trans le5) mx5 ⟨k0_,?_⟩;rw[hfin _ (e_ _)];simp only[hi]
    |some x=>
     rw[hi]at iv;obtain⟨r5,rfl,ax⟩:=iv;have jlen:=J.len;obtain⟨v6,H6,e6,rfl,o6,n6,k6⟩:=afJ hK (m-1) vids V4 H1.z H5 own5 o_;rw[show m-1+1=m by omega]at e6;obtain⟨H7,ec7,n7,k7⟩:=rM o6;have k57:∀ k,k<H1.z->H7.get k=H5.get k:=fun k hk=>(k7 k hk).trans (k6 k hk)
     have st7:St A B B1 (.ls (env.map bW)) M5 gN5 gF5 H7:=st5.up o_ (fun k _ q=>k57 k o_);have hm7:HM B B1 h H7:=⟨by have:=gs.hm.z;omega,fun k q1 q2=>(k57 k o_).trans ((gs.hm.trans hm5).kw k q1 q2)⟩;obtain⟨o8,H8,e8,hm8,q8⟩:=aa4 hK km (m:=m) hm st7 g5' mx5.ct ax (le5.lk J.lk).rev (by rw[List.length_reverse];omega);rw[<- jo (f:=62) (c:=[]) (ae (bD A.a 0 0 H6) (ae (aG .i64 r5 H6) (ae ec7 (aC _)))) (ae (bD _ _ _ _) (ae (aG _ _ _) (ae (dM _ _) (aC _))))]at e8;have g116:=(((k6 _ y11).trans (hm5.kw _ x11 (.inr l11)))).trans J.g11;have nx8:=hm8.z;have g118:=(hm8.kw H0.z o_ (.inr o_)).trans ((k7 _ y11).trans g116);unfold iP at g118 g116;rw[han]at g118 g116;have bqI:∀ l:List Int,AV.beq (.ls (l.map AG.aO)) (.ls (l.map AG.aO))=true:=fun l=>bU (by simp only[AV.free];exact bE jc l)
     have hsl9:∀ (tm:Tm) (h:AH),nth tm 109=i_ (an:Int)->fq h 1 (.ls (ids.map AG.aO)) tm (some (.t 109)) none none=some (.ls ((ids.drop an).map AG.aO),h):=fun tm h e=>oT h ids e o_
     have bq:=(kD J.own).1;simp only[go_sem,simprocAttr,e5,Au,Kz,t12,e6,KB,t0];rcases q8 with⟨v,rfl,M8,gN8,gF8,st8,g8,le8,sv8,r8,rfl,a8⟩|rfl
     ·simp only[go_sem,simprocAttr,e8,t3,t11,g118,g116,hsl9];refine mW (vs:=[i_ r8,.ls ((ids.drop an).map AG.aO),.bool true]) (.inr rfl) (by simp only[go_sem,simprocAttr,TE]) (bz (ae (aG _ _ _) (ae (dM _ _) (ae (aW _ _) (aC _))))) (hm7.trans hm8) ⟨M8,gN8,gF8,st8,g8,(gs.le.trans le5).trans le8,mx5.trans (sv8.mx mx5.ct mx5.mem le8),.inr ⟨r8,ids.drop an,jB vts.reverse x 0,as_.drop an,rfl,⟨k0_,?_⟩,a8,(((gs.le.trans le5).trans le8).lk lk).drop an,by rw[List.length_drop];omega⟩⟩;rw[hfin _ (e_ _)];simp only[hi]
     ·simp only[go_sem,simprocAttr,e8,t3,t11,g116,hsl9];exact cB (hm7.trans hm8)
   ·simp only[go_sem,simprocAttr,e5];exact cB (gs.hm.trans hm5)
end
theorem FA {C:MK.Cx}{nm:ByteArray}{ls:List LL}(hc:C.cst nm ls.length=.rigid)(W:T->Option T)(i:Int)(ks as_:List T):MK.step C W (.mk 3 i nm ls ks) as_=some (.stuck (.mk 3 i nm ls ks) as_):=by
 rw[Tt,hc]
theorem Uo {C:MK.Cx}{nm:ByteArray}{ls:List LL}{v:T}(hc:C.cst nm ls.length=.dfn v)(W:T->Option T)(i:Int)(ks as_:List T):MK.step C W (.mk 3 i nm ls ks) as_=match C.inst v ls with
   |none=>some (.stuck (.mk 3 i nm ls ks) as_)
   |some x=>some (.next x as_):=by
 rw[Tt,hc];rfl
theorem VO (d:DV)(h:AH):cp (.vptr (.agg (aM d))) h 8 5 true=.val (.vptr (.agg (aJ d.value))) h:=rfl
section
variable {K:aQ}{A:Ma}{B B1:Nat}{env:List DV}{M:Ms}{gN gF:Nat}{h:AH}{inst:T->List LL->Option T}
theorem c1064 (hK:aZ K)(km:KM K)(kg:KG K)(eg:Eg env){m m0:Nat}{v0:Int}(wq:Wq K A B B1 (.ls (env.map bW)) (Ce env inst) m v0)(ci:Ci K A B B1 (.ls (env.map bW)) inst m0)(hm0:m0<=m)(hm:262300<=m)
  (s:St A B B1 (.ls (env.map bW)) M gN gF h) (g:Wg M) (c:Ct M) (mem:Mem (Ce env inst) M) (hv:v0<=M.vis) {nv:NV} {ks:List T} (nok:NOK nv) (hk:nv.kind=3) {ids:List Int} {as_:List T} (lk:Lk M.ts ids as_) (hl:ids.length<9000000000) :
  Mc K (m+2) A B B1 (.ls (env.map bW)) (64) [] [.ptr A.a 0 0,aT nv,.ls (ids.map AG.aO)] M h fun M' v=>Mx (Ce env inst) M M'/\UR (Ce env inst) M' (ndT nv ks) as_ v:=by
 refine fG hK ajJ (ae (bD _ _ _ _) (ae (jT _ _) (ae (dM _ _) (aC _)))) ?_;have b1:=s.b1;have ra:=s.ok.rng.1;have hnd:ndT nv ks=.mk 3 nv.idx nv.name nv.L ks:=by unfold ndT;rw[hk]
 have hbx:∀ h:AH,dB h 5 (aT nv)=.val (.ptr h.z 0 0) (h.new (.box (aT nv).cells)):=fun h=>bN _ 5 rfl
 obtain⟨H0,hH⟩:∃ H:AH,H=h.new (.box (aT nv).cells):=⟨_,rfl⟩
 have k0:HK h H0:=by rw[hH];exact HK.new _ _
 have n0:H0.z=h.z+1:=by rw[hH,ala]
 have g4:H0.get h.z=some (.box (aT nv).cells):=by rw[hH,aE]
 have s0:=s.hk k0;obtain⟨v,H1,e1,rfl,k1⟩:=c1103 hK (m-3) s0 nv eg.ds eg.len;rw[show m-3+4=m+1 by omega]at e1;have nx1:=k1.z;have k01:=k0.trans k1;have g41:=(k1.kw _ o_).trans g4;have ld4:=fk (sz:=5) g4 rfl;have fin:∀ (tm:Tm) (H2:AH) (M':Ms) (gN' gF':Nat) (j:Int) (z z':AV) (b:Bool),nth tm 6=i_ j->nth tm 7=z->nth tm 8=.bool b->HM B B1 h H2->St A B B1 (.ls (env.map bW)) M' gN' gF' H2->Wg M'->Le M M'->Mx (Ce env inst) M M'->cE z H2=(z',H2)->UR (Ce env inst) M' (ndT nv ks) as_ (.tup [i_ j,z',.bool b])->
   XQ (cS K (m+1)) aaI (ru (PM B B1 h fun v h'=>Gq A B B1 (.ls (env.map bW)) M h' fun M'=>Mx (Ce env inst) M M'/\UR (Ce env inst) M' (ndT nv ks) as_ v)) .ret ⟨tm,⟨[],.no,none,64⟩⟩ H2:=by
  intro tm H2 M' gN' gF' j z z' b t6 t7 t8 hm2 st g' le mx hz hu;exact mW (vs:=[i_ j,z,.bool b]) (.inr rfl) (by simp only[go_sem,simprocAttr,aaI,t6,t7,t8]) (bz (ae (aG _ _ _) (ae hz (ae (aW _ _) (aC _))))) hm2 ⟨M',gN',gF',st,g',le,mx,hu⟩
 have urig:∀ M',Tl env nv.name nv.L.length=.rigid->UR (Ce env inst) M' (ndT nv ks) as_ (.tup [i_ 0,.ls [],.bool false]):=fun M' hc=>.inl ⟨0,[],rfl,0,by rw[hnd];exact FA hc _ _ _ _⟩
 unfold agU;simp only[go_sem,simprocAttr,hbx];rw[<- hH];clear hH;rw[<- show(AV.agg (aT nv).cells)=aT nv from rfl]at e1;simp only[go_sem,simprocAttr,Mu,ld4];unfold TY at e1;rw[P_ hk]at e1;cases hfe:iy nv.name env 0 with
 |none=>
  rw[hfe]at e1;have hst:=bp (h:=H1.new (.box zE)) (vs:=zEl) (sz:=9) (aE _ _) rfl rfl;unfold zE at hst;simp only[go_sem,simprocAttr,e1,hst,vG];exact fin _ _ M gN gF 0 .nl (.ls []) false k_ k_ k_ ((HK.m ((k01.add _).set _ o_))) ((s.hk ((k01.add _).set _ o_))) g (Le.refl M) (Mx.refl c mem) (dU _) (urig M (by unfold Tl;rw[hfe]))
 |some e=>
  rw[hfe]at e1;have ent:=pg env env 0 e (fun j=>by rw[z_]) hfe;have hst:=bp (h:=H1.new (.box zE)) (vs:=bo e) (sz:=9) (aE _ _) rfl rfl;obtain⟨H2,hH2⟩:∃ H2:AH,H2=(H1.new (.box zE)).set H1.z (.box (bo e)):=⟨_,rfl⟩
  rw[<- hH2]at hst;have k2:HK H1 H2:=by rw[hH2];exact(HK.new _ _).set _ (e_ _)
  have g9:H2.get H1.z=some (.box (bo e)):=by rw[hH2,aH]
  have nx2:H2.z=H1.z+1:=by rw[hH2,alb,ala]
  clear hH2;have k02:=k01.trans k2;have s2:=s.hk k02;have g42:=(k2.kw _ o_).trans g41;have ld42:=fk (sz:=5) g42 rfl;have ld9:=fk (sz:=9) g9 rfl;unfold zE at hst;by_cases hp:e.params=(nv.L.length:Int)
  ·have dp:decide (e.params=(nv.L.length:Int))=true:=T_ hp;have hcst:∀ n d,e.decl=(n:Nat)->env[n]?=some d->Tl env nv.name nv.L.length=if e.kind=1 then .dfn d.value
     else if e.kind=5 then .rcr (firstOf d) (firstOf d+((gk d.type).length:Int)-d.fixed).toNat d.name d.rules
     else if e.kind=6 then match d.funs[e.item.toNat]? with
      |none=>.rigid
      |some f=>.fn f.arity.toNat f.tree
     else .rigid:=fun n d h1 h2=>by
    unfold Tl;rw[hfe];simp only;rw[P_ hp,h1,Int.toNat_natCast,h2];rfl
   simp only[go_sem,simprocAttr,e1,dp,hst,vG,Mv];cases ent with
   |plain k n d p t h1 h2 h3=>
    have hcs:=hcst n d rfl h1;simp only at hcs;unfold bo at g9;by_cases hk1:k=1
    ·subst hk1;rw[P_ rfl]at hcs;have dg:=eg.dg d (m_ h1);obtain⟨tv,sv⟩:=dg.value h2;have ha:=fun h=>aK eL h1 .i64 h
     rw[cA]at ha;have gA2:=s2.gA;unfold mL at gA2;obtain⟨o8,H8,e8,hm8,q8⟩:=ci (m+1) M gN gF H2 d.value nv.L o_ s2 g tv sv nok.nd.val (nok.nd.lev.2.1 hk);rw[dF]at e8;have g42':=g42;unfold aT at g42';simp only[AV.cells]at g42';have stp:∀ W,MK.step (Ce env inst) W (ndT nv ks) as_=match inst d.value nv.L with
       |none=>some (.stuck (ndT nv ks) as_)
       |some x=>some (.next x as_):=fun W=>by rw[hnd];exact Uo hcs W nv.idx ks as_
     simp only[go_sem,simprocAttr,g9,gA2,ha,VO,kG,g42'];rcases q8 with⟨v,rfl,M8,gN8,gF8,st8,g8,le8,sm8,iv⟩|rfl
     ·have mx8:=sm8.mx c mem le8;unfold inV at iv;cases hi:inst d.value nv.L with
      |none=>
       rw[hi]at iv;subst iv;simp only[go_sem,simprocAttr,e8];exact fin _ _ M8 gN8 gF8 0 (.ls (ids.map AG.aO)) _ false k_ k_ k_ ((HK.m k02).trans hm8) st8 g8 le8 mx8 (dM _ _) (.inl ⟨0,ids,rfl,0,by rw[stp];simp only[hi]⟩)
      |some x=>
       rw[hi]at iv;obtain⟨r8,rfl,ax⟩:=iv;simp only[go_sem,simprocAttr,e8];exact fin _ _ M8 gN8 gF8 r8 (.ls (ids.map AG.aO)) _ true k_ k_ k_ ((HK.m k02).trans hm8) st8 g8 le8 mx8 (dM _ _) (.inr ⟨r8,ids,x,as_,rfl,⟨0,by rw[stp];simp only[hi]⟩,ax,le8.lk lk,by rw[lk.len];omega⟩)
     ·simp only[go_sem,simprocAttr,e8];exact cB ((HK.m k02).trans hm8)
    ·rw[N_ hk1,N_ o_,N_ o_]at hcs;have d1:decide (k=1)=false:=D_ hk1;have d5:decide (k=5)=false:=d_;have d6:decide (k=6)=false:=d_;simp only[go_sem,simprocAttr,g9,d1,d5,d6,AR];exact fin _ _ M gN gF 0 .nl (.ls []) false k_ k_ k_ (HK.m k02) s2 g (Le.refl M) (Mx.refl c mem) (dU _) (urig M hcs)
   |ctor n j d ct p h1 h2 h3=>
    have hcs:=hcst n d rfl h1;simp only at hcs;rw[N_ o_,N_ o_,N_ o_]at hcs;unfold bo at g9;simp only[go_sem,simprocAttr,g9,AR];exact fin _ _ M gN gF 0 .nl (.ls []) false k_ k_ k_ (HK.m k02) s2 g (Le.refl M) (Mx.refl c mem) (dU _) (urig M hcs)
   |rcr n d p t h1 h2=>
    have hcs:=hcst n d rfl h1;simp only at hcs;rw[N_ o_,P_ trivial]at hcs;obtain⟨o8,H8,e8,hm8,q8⟩:=c1105 hK kg eg wq ci hm0 o_ s2 g c mem hv (ks:=ks) nok hk (p:=p) (ty:=t) h1 h2 hcs lk hl;rw[fM,<- show(AV.agg (aT nv).cells)=aT nv from rfl]at e8;unfold bo at g9;simp only[go_sem,simprocAttr,g9,ld42,ld9];rcases q8 with⟨v,rfl,M8,gN8,gF8,st8,g8,le8,mx8,ur⟩|rfl
    ·have ur':=ur;rcases ur with⟨j,z,rfl,_⟩|⟨r,z,x,l,rfl,_⟩
     ·simp only[go_sem,simprocAttr,e8];exact fin _ _ M8 gN8 gF8 j (.ls (z.map AG.aO)) _ false k_ k_ k_ ((HK.m k02).trans hm8) st8 g8 le8 mx8 (dM _ _) ur'
     ·simp only[go_sem,simprocAttr,e8];exact fin _ _ M8 gN8 gF8 r (.ls (z.map AG.aO)) _ true k_ k_ k_ ((HK.m k02).trans hm8) st8 g8 le8 mx8 (dM _ _) ur'
    ·simp only[go_sem,simprocAttr,e8];exact cB ((HK.m k02).trans hm8)
   |fn n j d f p h1 h2 h3=>
    have hcs:=hcst n d rfl h1;simp only at hcs;rw[N_ o_,N_ o_,P_ trivial,Int.toNat_natCast,h3]at hcs;obtain⟨o8,H8,e8,hm8,q8⟩:=c1106 hK km eg wq ci hm0 hm s2 g c mem hv (ks:=ks) nok hk (p:=p) (ty:=f.type) h1 h3 hcs lk hl;rw[fM,<- show(AV.agg (aT nv).cells)=aT nv from rfl]at e8;unfold bo at g9;simp only[go_sem,simprocAttr,g9,ld42,ld9];rcases q8 with⟨v,rfl,M8,gN8,gF8,st8,g8,le8,mx8,ur⟩|rfl
    ·have ur':=ur;rcases ur with⟨j,z,rfl,_⟩|⟨r,z,x,l,rfl,_⟩
     ·simp only[go_sem,simprocAttr,e8];exact fin _ _ M8 gN8 gF8 j (.ls (z.map AG.aO)) _ false k_ k_ k_ ((HK.m k02).trans hm8) st8 g8 le8 mx8 (dM _ _) ur'
     ·simp only[go_sem,simprocAttr,e8];exact fin _ _ M8 gN8 gF8 r (.ls (z.map AG.aO)) _ true k_ k_ k_ ((HK.m k02).trans hm8) st8 g8 le8 mx8 (dM _ _) ur'
    ·simp only[go_sem,simprocAttr,e8];exact cB ((HK.m k02).trans hm8)
  ·have dp:decide (e.params=(nv.L.length:Int))=false:=D_ hp;simp only[go_sem,simprocAttr,e1,dp,hst,vG];exact fin _ _ M gN gF 0 .nl (.ls []) false k_ k_ k_ (HK.m k02) s2 g (Le.refl M) (Mx.refl c mem) (dU _) (urig M (by unfold Tl;rw[hfe];exact N_ hp))
end
