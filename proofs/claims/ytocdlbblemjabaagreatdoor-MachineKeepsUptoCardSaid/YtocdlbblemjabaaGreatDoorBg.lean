/- MachineKeeps: contracting a recursor (no condition). -/
import Derived.Test.YtocdlbblemjabaaGreatDoorBf
namespace Go.Proofs.YtocdlbblemjabaaGreatDoor
open Go.AG Go.AG.MK
theorem Tt (C:MK.Cx)(W:T->Option T)(i:Int)(nm:ByteArray)(ls:List LL)(ks as_:List T):MK.step C W (.mk 3 i nm ls ks) as_=match C.cst nm ls.length with
  |.rigid=>some (.stuck (.mk 3 i nm ls ks) as_)
  |.dfn v=>match C.inst v ls with
   |none=>some (.stuck (.mk 3 i nm ls ks) as_)
   |some x=>some (.next x as_)
  |.rcr first at_ fam rules=>match as_[at_]? with
   |none=>some (.stuck (.mk 3 i nm ls ks) as_)
   |some a=>match W a with
    |none=>none
    |some c=>match dy C c with
     |none=>some (.stuck (.mk 3 i nm ls ks) as_)
     |some d=>if d.fam=fam then
       match rules[d.j]? with
       |none=>some (.stuck (.mk 3 i nm ls ks) as_)
       |some r=>match C.inst r ls with
        |none=>some (.stuck (.mk 3 i nm ls ks) as_)
        |some x=>some (.next x (as_.take first++d.fields++as_.drop (at_+1)))
      else some (.stuck (.mk 3 i nm ls ks) as_)
  |.fn arity tree=>if as_.length<arity then some (.stuck (.mk 3 i nm ls ks) as_) else
   match mtT C W tree (as_.take arity) with
   |none=>none
   |some none=>some (.stuck (.mk 3 i nm ls ks) as_)
   |some (some (body,vars))=>match C.inst body ls with
    |none=>some (.stuck (.mk 3 i nm ls ks) as_)
    |some x=>some (.next (jB vars.reverse x 0) (as_.drop arity)):=rfl
theorem Un {C:MK.Cx}{nm:ByteArray}{ls:List LL}{first at_:Nat}{fam:ByteArray}{rules:List T}(hc:C.cst nm ls.length=.rcr first at_ fam rules)(W:T->Option T)(i:Int)(ks as_:List T):MK.step C W (.mk 3 i nm ls ks) as_=match as_[at_]? with
   |none=>some (.stuck (.mk 3 i nm ls ks) as_)
   |some a=>match W a with
    |none=>none
    |some c=>match dy C c with
     |none=>some (.stuck (.mk 3 i nm ls ks) as_)
     |some d=>if d.fam=fam then
       match rules[d.j]? with
       |none=>some (.stuck (.mk 3 i nm ls ks) as_)
       |some r=>match C.inst r ls with
        |none=>some (.stuck (.mk 3 i nm ls ks) as_)
        |some x=>some (.next x (as_.take first++d.fields++as_.drop (at_+1)))
      else some (.stuck (.mk 3 i nm ls ks) as_):=by
 rw[Tt,hc]
theorem ma:∀ (n:Nat) (t:T),size t<=n->(gk t).length<=size t
 |0,t,h=>by have:=bZ t;omega
 |n+1,.mk k i nm ls ks,h=>by
  by_cases q:k=6/\ks.length=2
  ·obtain⟨rfl,q⟩:=q
   match ks,q with
   |[a,b],_=>
    rw[gk,P_ rfl];simp only[size,bO]at h ⊢;have:=ma n b o_;rw[List.length_cons];omega
  ·rw[(Ac q).1];simp
section
variable {K:aQ}{A:Ma}{B B1:Nat}{E:AV}{env:List DV}{M:Ms}{gN gF:Nat}{h:AH}{C:MK.Cx}{inst:T->List LL->Option T}
def Wn (C:MK.Cx)(k:Nat):T->Option T:=fun t=>wf C k t []
def Wq (K:aQ)(A:Ma)(B B1:Nat)(E:AV)(C:MK.Cx)(m:Nat)(v0:Int):Prop:=∀ (M:Ms) (gN gF:Nat) (h:AH) (x:Int) (t:T),St A B B1 E M gN gF h->Wg M->Ct M->Mem C M->v0<=M.vis->At M.ts x t->
 Mc K m A B B1 E (31) [] [.ptr A.a 0 0,i_ x] M h fun M' v=>Mx C M M'/\∃ r u,v=i_ r/\At M'.ts r u/\Wh C t u
def inV (inst:T->List LL->Option T)(M':Ms)(t:T)(ls:List LL)(v:AV):Prop:=match inst t ls with
 |none=>v=.tup [i_ 0,.bool false]
 |some u=>∃ r,v=.tup [i_ r,.bool true]/\At M'.ts r u
def Ci (K:aQ)(A:Ma)(B B1:Nat)(E:AV)(inst:T->List LL->Option T)(m0:Nat):Prop:=∀ (m:Nat) (M:Ms) (gN gF:Nat) (h:AH) (t:T) (ls:List LL),m0<=m->St A B B1 E M gN gF h->Wg M->TOK t->size t<50000->(∀ l∈ls,VL l)->ls.length<=8->
 Mc K m A B B1 E (104) [] [.ptr A.a 0 0,enc t,.ls (ls.map ba)] M h fun M' v=>Sm M M'/\inV inst M' t ls v
def UR (C:MK.Cx)(M':Ms)(hd:T)(as_:List T)(v:AV):Prop:=
 (∃ (j:Int) (z:List Int),v=.tup [i_ j,.ls (z.map AG.aO),.bool false]/\∃ k,MK.step C (Wn C k) hd as_=some (.stuck hd as_))∨
 (∃ (r:Int) (z:List Int) (x:T) (l:List T),v=.tup [i_ r,.ls (z.map AG.aO),.bool true]/\(∃ k,MK.step C (Wn C k) hd as_=some (.next x l))/\At M'.ts r x/\Lk M'.ts z l/\z.length<=as_.length+400)
theorem Sm.mx {M M':Ms}(s:Sm M M')(c:Ct M)(m:Mem C M)(le:Le M M'):Mx C M M':=(s.v c).mx c m le
theorem aiq (h:AH)(a b c:List AV):fY true false 1 [.nl] 3 [(0,1,.ls a),(1,1,.ls b),(2,1,.ls c)] h=.val (.clip [.ls a,.ls b,.ls c]) h:=(rfl)
theorem SF (a b c:List Int)(h:AH):cE (.clip [.ls (a.map AG.aO),.ls (b.map AG.aO),.ls (c.map AG.aO)]) h=(.ls ([a,b,c].map encZ),h):=by
 rw[bG (by simp[AV.free,AV.ale,bE jc])];simp[AV.norm,AV.ald,encZ,bw fb]
theorem c1105 (hK:aZ K)(kg:KG K)(eg:Eg env){m m0:Nat}{v0:Int}(wq:Wq K A B B1 (.ls (env.map bW)) (Ce env inst) m v0)(ci:Ci K A B B1 (.ls (env.map bW)) inst m0)(hm0:m0<=m)(hm:10<=m)
  (s:St A B B1 (.ls (env.map bW)) M gN gF h) (g:Wg M) (c:Ct M) (mem:Mem (Ce env inst) M) (hv:v0<=M.vis) {nv:NV} {ks:List T} (nok:NOK nv) (hk:nv.kind=3) {n:Nat} {d:DV} {p:Int} {ty:T} (hd:env[n]?=some d) (hd3:d.kind=3)
  (hc:Tl env nv.name nv.L.length=.rcr (firstOf d) (firstOf d+((gk d.type).length:Int)-d.fixed).toNat d.name d.rules) {ids:List Int} {as_:List T} (lk:Lk M.ts ids as_) (hl:ids.length<9000000000) :
  Mc K (m+1) A B B1 (.ls (env.map bW)) (105) [] [.ptr A.a 0 0,aT nv,rq ⟨5,n,0,p,ty⟩,.ls (ids.map AG.aO)] M h fun M' v=>Mx (Ce env inst) M M'/\UR (Ce env inst) M' (ndT nv ks) as_ v:=by
 refine fG hK ajn (ae (bD _ _ _ _) (ae (jT _ _) (ae (zj _ _) (ae (dM _ _) (aC _))))) ?_;have b1:=s.b1;have ra:=s.ok.rng.1;have dm:=m_ hd;have dg:=eg.dg d dm;have hlen:=lk.len;have hcC:(Ce env inst).cst nv.name nv.L.length=_:=hc;have hnd:ndT nv ks=.mk 3 nv.idx nv.name nv.L ks:=by unfold ndT;rw[hk]
 have hstep:=fun W=>Un hcC W nv.idx ks as_
 rw[<- hnd]at hstep;have hbx:∀ h:AH,dB h 5 (aT nv)=.val (.ptr h.z 0 0) (h.new (.box (aT nv).cells)):=fun h=>bN _ 5 rfl
 have hbe:∀ h:AH,dB h 9 (.agg (bo ⟨5,n,0,p,ty⟩))=.val (.ptr h.z 0 0) (h.new (.box (bo ⟨5,n,0,p,ty⟩))):=fun h=>bN _ 9 rfl
 obtain⟨H0,hH⟩:∃ H:AH,H=(h.new (.box (aT nv).cells)).new (.box (bo ⟨5,n,0,p,ty⟩)):=⟨_,rfl⟩
 have n1:=ala h (.box (aT nv).cells);have k0:HK h H0:=by rw[hH];exact(HK.new _ _).add _
 have n0:H0.z=h.z+2:=by rw[hH,ala,n1]
 have g5:H0.get h.z=some (.box (aT nv).cells):=by rw[hH,aL o_,aE]
 have g6:H0.get (h.z+1)=some (.box (bo ⟨5,n,0,p,ty⟩)):=by rw[hH,<- n1,aE]
 have stuck:∀ (tm:Tm) (H2:AH) (M':Ms) (gN' gF':Nat),nth tm 8=i_ 0->nth tm 9=.nl->nth tm 10=.bool false->HM B B1 h H2->St A B B1 (.ls (env.map bW)) M' gN' gF' H2->Wg M'->Le M M'->Mx (Ce env inst) M M'->(∃ k,MK.step (Ce env inst) (Wn (Ce env inst) k) (ndT nv ks) as_=some (.stuck (ndT nv ks) as_))->
   XQ (cS K m) TF (ru (PM B B1 h fun v h'=>Gq A B B1 (.ls (env.map bW)) M h' fun M'=>Mx (Ce env inst) M M'/\UR (Ce env inst) M' (ndT nv ks) as_ v)) .ret ⟨tm,⟨[],.no,none,105⟩⟩ H2:=by
  intro tm H2 M' gN' gF' t8 t9 t10 hm2 st g' le mx hs;exact mW (vs:=[i_ 0,.nl,.bool false]) (.inr rfl) (by simp only[go_sem,simprocAttr,TF,t8,t9,t10]) (bz (ae (aG _ _ _) (ae (dU _) (ae (aW _ _) (aC _))))) hm2 ⟨M',gN',gF',st,g',le,mx,.inl ⟨0,[],rfl,hs⟩⟩
 unfold agy;rw[fM];simp only[go_sem,simprocAttr,hbx,hbe,n1];rw[<- hH];clear hH;unfold aT at g5;simp only[AV.cells]at g5;have gA0:=(s.hk (k0.trans (HK.new H0 (.box zD)))).gA;have g6z:=((HK.new H0 (.box zD)).kw (h.z+1) o_).trans g6;have hst:=bp (h:=H0.new (.box zD)) (vs:=aM d) (sz:=23) (aE _ _) rfl rfl;have ha:=fun h=>aK eL hd .i64 h
 have hld:=fun h=>cI (v:=bW d) (sz:=23) rfl rfl h
 rw[cA]at ha hld;obtain⟨H1,hH1⟩:∃ H1:AH,H1=(H0.new (.box zD)).set H0.z (.box (aM d)):=⟨_,rfl⟩
 rw[<- hH1]at hst;have k1:HK H0 H1:=by rw[hH1];exact(HK.new _ _).set _ (e_ _)
 have g11:H1.get H0.z=some (.box (aM d)):=by rw[hH1,aH]
 have nx1:H1.z=H0.z+1:=by rw[hH1,alb,ala]
 clear hH1;have k01:=k0.trans k1;have gA1:=(s.hk k01).gA;have g51:=(k1.kw _ o_).trans g5;have g61:=(k1.kw _ o_).trans g6;unfold mL at gA0 gA1;unfold zD at gA0 g6z hst;unfold bo at g6z g61;have ldT:cj (.ptr H0.z 0 3) H1 true 5=some (.agg (aJ d.type)):=by
  rw[eV,g11,aI,eU,lK _ _ _ (by show 3+5<=23;omega)];rfl
 obtain⟨v2,H2,e2,rfl,k2⟩:=c312 hK (m-1) d.type H1 dg.ty;rw[show m-1+1=m by omega,dF]at e2;have nx2:=k2.z;have hst2:=bp (h:=H2.new (.box [i_ 0,i_ 0,.str (bs []),.nl,.nl])) (vs:=aJ (nW d.type)) (sz:=5) (aE _ _) rfl rfl;obtain⟨H3,hH3⟩:∃ H3:AH,H3=(H2.new (.box [i_ 0,i_ 0,.str (bs []),.nl,.nl])).set H2.z (.box (aJ (nW d.type))):=⟨_,rfl⟩
 rw[<- hH3,<- dF]at hst2;have k3:HK H2 H3:=by rw[hH3];exact(HK.new _ _).set _ (e_ _)
 have nx3:H3.z=H2.z+1:=by rw[hH3,alb,ala]
 clear hH3;have k23:=k2.trans k3;have k03:=k01.trans k23;have g113:=(k23.kw _ o_).trans g11;have g53:=(k23.kw _ o_).trans g51;have s3:=s.hk k03;unfold aM at g113;have fx0:=dg.fx0;have fx1:=dg.fx1 hd3;have tl:(gk d.type).length<=50000:=by
  have:=ma _ d.type (e_ _);have:=dg.ty;omega
 have nc:=dg.ds.ctors;obtain⟨fxn,hfx⟩:∃ k:Nat,d.fixed=k:=⟨d.fixed.toNat,o_⟩
 have hfirst:firstOf d=fxn+1+d.ctors.length:=by unfold firstOf;omega
 have hw1:IntKind.wrap .i64 (d.fixed+1)=d.fixed+1:=bI _ o_ o_;have hw2:IntKind.wrap .i64 (d.fixed+1+(d.ctors.length:Int))=((firstOf d:Nat):Int):=by rw[bI _ o_ o_];omega
 have hw3:IntKind.wrap .i64 (((firstOf d:Nat):Int)+((gk d.type).length:Int))=((firstOf d:Nat):Int)+((gk d.type).length:Int):=bI _ o_ o_;obtain⟨an,han⟩:∃ an:Nat,(firstOf d:Int)+((gk d.type).length:Int)-d.fixed=an:=⟨((firstOf d:Int)+((gk d.type).length:Int)-d.fixed).toNat,o_⟩
 have hw4:IntKind.wrap .i64 (((firstOf d:Nat):Int)+((gk d.type).length:Int)-d.fixed)=(an:Int):=by rw[bI _ o_ o_];exact han
 rw[han,Int.toNat_natCast]at hstep;simp only[go_sem,simprocAttr,KD,gA0,g6z,ha,hld,hst,KE,ldT,e2,hst2,KF,g113,hw1,hw2,KH,hw3,hw4,KI,L_];have first_le:firstOf d<=an:=o_;refine aX (fun hb=>?_) (fun hb=>?_)
 ·simp only[go_sem,simprocAttr];refine stuck _ H3 M gN gF k_ k_ k_ (HK.m k03) s3 g (Le.refl M) (Mx.refl c mem) ⟨0,?_⟩;rw[hstep,List.getElem?_eq_none o_]
 ·have hlt:an<ids.length:=o_;have hget:ids[an]?=some ids[an]:=a_ hlt;obtain⟨a,ea,aat⟩:=lk.get hget;have hai:=fun h=>aK (f:=AG.aO) (sz:=1) (fun _=>rfl) hget .i64 h
  have ele:=cu ids[an];obtain⟨o4,H4,e4,hm4,q4⟩:=wq M gN gF H3 ids[an] a s3 g c mem hv aat;simp only[go_sem,simprocAttr,KJ,hai,ele];rcases q4 with⟨v,rfl,M4,gN4,gF4,st4,g4,le4,mx4,r4,u,rfl,au,k4,wh⟩|rfl
  ·obtain⟨v6,H6,e6,cr,k6⟩:=afG (inst:=inst) hK eg (m-5) st4 g4 au;rw[show m-5+5=m by omega]at e6;have nx4:=hm4.z;have nx6:=k6.z;have hm46:HM B B1 H3 H6:=hm4.trans (HK.m k6);have hm6:HM B B1 h H6:=(HK.m k03).trans hm46;have g116:=(hm46.kw _ o_ (.inr o_)).trans g113;have g56:=(hm46.kw _ o_ (.inr o_)).trans g53;have st6:=st4.hk k6;have hW:Wn (Ce env inst) k4 a=some u:=wh;cases hct:dy (Ce env inst) u with
   |none=>
    rw[hct]at cr;obtain⟨cs,j,rfl,hcs⟩:=cr;have hst6:=bp (h:=H6.new (.box zD)) (vs:=cs) (sz:=23) (aE _ _) rfl hcs;unfold zD at hst6;simp only[go_sem,simprocAttr,e4,e6,hst6,Av];refine stuck _ _ M4 gN4 gF4 k_ k_ k_ ((hm6.new _).set _ (.inl o_)) ((st6.new _).set _ o_) g4 le4 mx4 ⟨k4,?_⟩;rw[hstep,ea];simp only[hW,hct]
   |some cv=>
    rw[hct]at cr;obtain⟨d2,fids,d2m,rfl,hfam,flk,⟨c2,hc2,hcn⟩,hfl⟩:=cr;have hst6:=bp (h:=H6.new (.box zD)) (vs:=aM d2) (sz:=23) (aE _ _) rfl rfl;obtain⟨H7,hH7⟩:∃ H7:AH,H7=(H6.new (.box zD)).set H6.z (.box (aM d2)):=⟨_,rfl⟩
    rw[<- hH7]at hst6;have k7:HK H6 H7:=by rw[hH7];exact(HK.new _ _).set _ (e_ _)
    have g16:H7.get H6.z=some (.box (aM d2)):=by rw[hH7,aH]
    have nx7:H7.z=H6.z+1:=by rw[hH7,alb,ala]
    clear hH7;have hm7:=hm6.trans (HK.m k7);have g117:=(k7.kw _ o_).trans g116;have g57:=(k7.kw _ o_).trans g56;have st7:=st6.hk k7;unfold zD at hst6;unfold aM at g16;have hst7:∀ W,W a=some u->MK.step (Ce env inst) W (ndT nv ks) as_=if cv.fam=d.name then
       match d.rules[cv.j]? with
       |none=>some (.stuck (ndT nv ks) as_)
       |some r=>match inst r nv.L with
        |none=>some (.stuck (ndT nv ks) as_)
        |some x=>some (.next x (as_.take (firstOf d)++cv.fields++as_.drop (an+1)))
      else some (.stuck (ndT nv ks) as_):=fun W hw=>by
     rw[hstep,ea];simp only[hw,hct];rfl
    simp only[go_sem,simprocAttr,e4,e6,hst6,Av,g16,g117,db];by_cases hn:d2.name=d.name
    ·have dn:decide (d2.name=d.name)=true:=T_ hn;by_cases hj:d.rules.length<=cv.j
     ·have dj:decide ((d.rules.length:Int)<=(cv.j:Int))=true:=t_;simp only[go_sem,simprocAttr,dn,dj,g117];refine stuck _ _ M4 gN4 gF4 k_ k_ k_ hm7 st7 g4 le4 mx4 ⟨k4,?_⟩;rw[hst7 _ hW,P_ (by rw[<- hfam];exact hn),List.getElem?_eq_none hj]
     ·have dj:decide ((d.rules.length:Int)<=(cv.j:Int))=false:=d_;have hr:d.rules[cv.j]?=some d.rules[cv.j]:=a_ o_;revert hr;generalize d.rules[cv.j]=rl;intro hr;have hrm:=dg.rules rl (m_ hr);have hia:=fun h=>aK bJ hr .i64 h
      have hl5:=dN rl;obtain⟨o8,H8,e8,hm8,q8⟩:=ci m M4 gN4 gF4 H7 rl nv.L hm0 st7 g4 hrm.1 hrm.2 nok.nd.val (nok.nd.lev.2.1 hk);simp only[go_sem,simprocAttr,dn,dj,KL,g117,hia,hl5,g57];rcases q8 with⟨v,rfl,M8,gN8,gF8,st8,g8,le8,sm8,iv⟩|rfl
      ·have g118:=(hm8.kw _ o_ (.inr o_)).trans g117;have g58:=(hm8.kw _ o_ (.inr o_)).trans g57;have mx8:=mx4.trans (sm8.mx mx4.ct mx4.mem le8);have hm8':=hm7.trans hm8;unfold inV at iv;cases hi:inst rl nv.L with
       |none=>
        rw[hi]at iv;subst iv;simp only[go_sem,simprocAttr,e8,Aw];refine stuck _ _ M8 gN8 gF8 k_ k_ k_ hm8' st8 g8 (le4.trans le8) mx8 ⟨k4,?_⟩;rw[hst7 _ hW,P_ (by rw[<- hfam];exact hn),hr];simp only[hi]
       |some x=>
        rw[hi]at iv;obtain⟨r8,rfl,ax⟩:=iv;have hsl1:=fun h=>yh h ids (n:=firstOf d) o_
        have hw5:IntKind.wrap .i64 ((an:Int)+1)=((an+1:Nat):Int):=by rw[bI _ o_ o_];omega
        have hsl2:∀ (tm:Tm) (h:AH),nth tm 105=i_ ((an+1:Nat):Int)->fq h 1 (.ls (ids.map AG.aO)) tm (some (.t 105)) none none=some (.ls ((ids.drop (an+1)).map AG.aO),h):=fun tm h e=>oT h ids e o_
        obtain⟨v9,H9,e9,rfl,k9⟩:=afK hK kg (m-1) [ids.take (firstOf d),fids,ids.drop (an+1)] (by simp only[List.flatten_cons,List.flatten_nil,List.length_append,List.length_take,List.length_drop,List.length_nil];omega) (by simp) H8;rw[show m-1+1=m by omega,<- jo (f:=66) (c:=[]) (ae (SF (ids.take (firstOf d)) fids (ids.drop (an+1)) H8) (aC _)) (ae (Ir _ _) (aC _))]at e9;simp only[go_sem,simprocAttr,e8,Aw,KN,hsl1,hw5,hsl2,nj,aiq,e9];refine mW (vs:=[i_ r8,.ls (([ids.take (firstOf d),fids,ids.drop (an+1)].flatten).map AG.aO),.bool true]) (.inr rfl) (by simp only[go_sem,simprocAttr,TF]) (bz (ae (aG _ _ _) (ae (dM _ _) (ae (aW _ _) (aC _))))) (hm8'.trans (HK.m k9)) ⟨M8,gN8,gF8,st8.hk k9,g8,le4.trans le8,mx8,.inr ⟨r8,_,x,as_.take (firstOf d)++cv.fields++as_.drop (an+1),rfl,⟨k4,?_⟩,ax,?_,?_⟩⟩
        ·rw[hst7 _ hW,P_ (by rw[<- hfam];exact hn),hr];simp only[hi]
        ·have lk8:=(le4.trans le8).lk lk;have fl8:=le8.lk flk;simp only[List.flatten_cons,List.flatten_nil,A_,List.append_assoc];exact(lk8.take (firstOf d)).append (fl8.append (lk8.drop (an+1)))
        ·simp only[List.flatten_cons,List.flatten_nil,List.length_append,List.length_take,List.length_drop,List.length_nil];omega
      ·simp only[go_sem,simprocAttr,e8];exact cB (hm7.trans hm8)
    ·have dn:decide (d2.name=d.name)=false:=D_ hn;simp only[go_sem,simprocAttr,dn];refine stuck _ H7 M4 gN4 gF4 ?_ ?_ ?_ hm7 st7 g4 le4 mx4 ⟨k4,?_⟩
     ·simp only[go_sem,simprocAttr]
     ·simp only[go_sem,simprocAttr]
     ·simp only[go_sem,simprocAttr]
     rw[hst7 _ hW,N_ (by rw[<- hfam];exact hn)]
  ·simp only[go_sem,simprocAttr,e4];exact cB ((HK.m k03).trans hm4)
end
