/- MachineKeeps: the walk that replaces variables (no condition). -/
import Derived.Test.YtocdlbblemjabaaGreatDoorBa
namespace Go.Proofs.YtocdlbblemjabaaGreatDoor
open Go.AG Go.AG.MK
theorem WA (h:AH)(k1 k2 k k':IntKind)(a b x y:Int):bT h [.int k1 a,.int k2 b] [(0,1,.int k x),(1,1,.int k' y)]=.val (.agg [.int k x,.int k' y]) h:=(rfl)
def Pv (t:T)(M:Ms)(M':Ms)(v:AV):Prop:=Sv M M'/\∃ r,v=i_ r/\At M'.ts r t
theorem OH (n:Nat)(hn:n<=100000)(H:AH):fJ H false 1 8 [i_ 0] (i_ (n:Int)) (i_ (n:Int))=some (.row H.z 0 1 0 n,H.new (.row 0 1 false (flat ((List.replicate n (0:Int)).map AG.aO)) 0)):=by
 have e:lB (i_ (n:Int)) 9223372036854775807=some n:=by
  show aD (some n) (fun m=>cond (Nat.ble m 9223372036854775807) (some m) none)=_;have h1:n<=9223372036854775807:=o_;rw[aI,fh h1];rfl
 unfold fJ;rw[e,aI,aI];have h2:n*8<=140737488355328:=o_;show cond (and (Nat.beq n n) (and (Nat.ble (n*8) 140737488355328) true)) (some (AV.row H.z 0 1 0 n,H.new (.row 0 1 false (rY n [i_ 0]) 0))) none=_;rw[eX,fh h2,List.map_replicate,jS];rfl
theorem Xa (dn:List Int)(L p:Nat)(r:Int)(h:dn.length=p)(hp:p<L):(dn++List.replicate (L-p) 0).set p r=dn++[r]++List.replicate (L-(p+1)) 0:=by
 obtain⟨q,hq⟩:∃ q,L-p=q+1:=⟨L-p-1,o_⟩
 rw[hq,List.replicate_succ,show L-(p+1)=q by omega,<- h,List.set_append_right _ _ (e_ _),Nat.sub_self];simp
theorem Ff {H:AH}{kk L:Nat}(k i:Int)(nm:ByteArray)(ls:List LL)(dn:List Int)(hL:L=dn.length)(hk:H.get kk=some (.row 0 1 false (flat (dn.map AG.aO)) 0))(hlt:kk<H.z):
  ∃ H',cE (.agg [i_ k,i_ i,.str nm,.ls (ls.map ba),.row kk 0 1 0 L]) H=(aT ⟨k,i,nm,ls,dn⟩,H')/\H'.z=H.z/\∀ j,j≠kk->H'.get j=H.get j:=by
 have o:Own 0 1 false H (.row kk 0 1 0 L) (dn.map AG.aO):=⟨jV dn,.inr ⟨kk,0,by rw[L_,hL],hk,hlt,Nat.zero_le _⟩⟩;rcases own_shut o (fun _=>rfl) with⟨e,_,_⟩|⟨k',g,e1,e2,_,_⟩
 ·cases e
 ·cases e1;refine⟨H.set kk (.row 0 1 false (flat (dn.map AG.aO)) ((dn.map AG.aO).length*1)),?_,alb _ _ _,fun j hj=>aB hj⟩;show((AV.agg (cC _ H).1).norm,(cC _ H).2)=_;have e3:cC [i_ k,i_ i,.str nm,.ls (ls.map ba),.row kk 0 1 0 (dn.map AG.aO).length] H=([i_ k,i_ i,.str nm,.ls (ls.map ba),.ls (dn.map AG.aO)],H.set kk (.row 0 1 false (flat (dn.map AG.aO)) ((dn.map AG.aO).length*1))):=by
   show(_::_::_::_::(cP (.row kk 0 1 0 (dn.map AG.aO).length) H).1 :: [],(cP (.row kk 0 1 0 (dn.map AG.aO).length) H).2)=_;rw[e2];rfl
  rw[e3];simp[aT,AV.norm,AV.ald,bw fL,bw fb]
section
variable {K:aQ}{A:Ma}{B B1:Nat}{E:AV}
structure Ad (B1 cM cS cF cW kS top:Nat):Prop where
 lo:B1<=cM/\B1<=cS/\B1<=cF/\B1<=cW/\B1<=kS
 hi:cM<top/\cS<top/\cF<top/\cW<top/\kS<top
 ne:cM≠kS/\cS≠kS/\cF≠kS/\cW≠kS
theorem Ad.up {cM cS cF cW kS top top':Nat}(a:Ad B1 cM cS cF cW kS top)(h:top<=top'):Ad B1 cM cS cF cW kS top':=⟨a.lo,by have:=a.hi;omega,a.ne⟩
theorem Cl.hx {fv:AV}{cM cS cF cW kS:Nat}{sn sn':List ((Int×Int)×Int)}{h h':AH}(c:Cl A fv cM cS cF cW kS sn h)(a:Ad B1 cM cS cF cW kS h.z)(x:HX B B1 kS h h')(e:h'.get kS=some (.map (mpg Tk AG.aO sn'))):Cl A fv cM cS cF cW kS sn' h':=by
 obtain⟨l1,l2,l3,l4,l5⟩:=a.lo;obtain⟨h1,h2,h3,h4,h5⟩:=a.hi;obtain⟨n1,n2,n3,n4⟩:=a.ne;exact⟨(x.kw _ h1 (.inr l1) n1).trans c.gM,(x.kw _ h2 (.inr l2) n2).trans c.gS,(x.kw _ h3 (.inr l3) n3).trans c.gF,(x.kw _ h4 (.inr l4) n4).trans c.gW,e⟩
theorem Cl.hm {fv:AV}{cM cS cF cW kS:Nat}{sn:List ((Int×Int)×Int)}{h h':AH}(c:Cl A fv cM cS cF cW kS sn h)(a:Ad B1 cM cS cF cW kS h.z)(x:HM B B1 h h'):Cl A fv cM cS cF cW kS sn h':=
 c.hx (B:=B) a x.x ((x.kw _ a.hi.2.2.2.2 (.inr a.lo.2.2.2.2)).trans c.mS)
structure Fc (K:aQ)(A:Ma)(B B1:Nat)(E:AV)(kS m0 fid:Nat)(caps:List AV)(F:Int->Int->T)(Pf:AH->Prop)(M0:Ms):Prop where
 up:∀ h h',Pf h->HX B B1 kS h h'->Pf h'
 run:∀ m M gN gF h i d,m0<=m->Le M0 M->St A B B1 E M gN gF h->Wg M->Ct M->Pf h->0<=i->i<=65535->0<=d->d<=200000->Cm K m B B1 fid caps [i_ i,i_ d] h fun v h'=>Gq A B B1 E M h' fun M'=>Pv (F i d) M M' v
theorem Iv (hK:aZ K){M:Ms}{gN gF m:Nat}{h:AH}(hm:2<=m)(s:St A B B1 E M gN gF h)(g:Wg M)(c:Ct M):
  Cm K m B B1 (61) [] [.ptr A.a 0 0] h fun v h'=>v=.tup []/\Gq A B B1 E M h' fun M'=>M'={M with vis:=M.vis+1}/\Sv M M':=by
 obtain⟨k,rfl⟩:∃ k,m=k+2:=⟨m-2,o_⟩
 obtain⟨o,h',e,hm,q⟩:=c1061 hK k s c.v0 c.v1;refine⟨o,h',e,hm,?_⟩;rcases q with⟨v,rfl,rfl,hv,st⟩|rfl
 ·exact .inl ⟨_,rfl,rfl,_,gN,gF,st,⟨g.len,g.lenF,g.most,g.node,g.free,g.tok,g.nd⟩,⟨⟨[],by simp⟩,⟨[],by simp⟩⟩,rfl,⟨rfl,rfl,rfl,by show M.vis<=M.vis+1;omega,by show M.vis+1<=4000000;omega⟩⟩
 ·exact .inr rfl
def Wk (A:Ma)(B B1:Nat)(E:AV)(F:Int->Int->T)(kS:Nat)(M:Ms)(t:T)(h:AH)(o:dH)(h':AH):Prop:=HX B B1 kS h h'/\
 ((∃ v,o=.ret v/\∃ M' gN gF sn,St A B B1 E M' gN gF h'/\Wg M'/\Le M M'/\Pv t M M' v/\h'.get kS=some (.map (mpg Tk AG.aO sn))/\Sn F M' sn)∨o=.pan pv)
structure J1140 (A:Ma)(B B1:Nat)(E:AV)(F:Int->Int->T)(kS cM cS_ cF cW fid:Nat)(caps:List AV)(Pf:AH->Prop)(M:Ms)(nv:NV)(ks:List T)(n:Nat)(d:Int)(b12 kk:Nat)(h0 h:AH)(M':Ms)(gN gF:Nat)(sn:List ((Int×Int)×Int))(dn:List Int)(p:Nat):Prop where
 st:St A B B1 E M' gN gF h
 g:Wg M'
 le:Le M M'
 sv:Sv M M'
 hx:HX B B1 kS h0 h
 cl:Cl A (.fn fid [] caps) cM cS_ cF cW kS sn h
 sn_:Sn F M' sn
 pf:Pf h
 g9:h.get h0.z=some (.box [i_ (n:Int),i_ d])
 g12:h.get b12=some (.box [i_ nv.kind,i_ nv.idx,.str nv.name,.ls (nv.L.map ba),.ls (nv.K.map AG.aO)])
 row:h.get kk=some (.row 0 1 false (flat ((dn++List.replicate (nv.K.length-p) 0).map AG.aO)) 0)
 lk:Lk M'.ts dn ((re F nv.kind 0 ks d).take p)
 pl:p<=nv.K.length
 nx:kk<h.z
 dl:dn.length=p
def I1140 (A:Ma)(B B1:Nat)(E:AV)(F:Int->Int->T)(kS cM cS_ cF cW fid:Nat)(caps:List AV)(Pf:AH->Prop)(M:Ms)(nv:NV)(ks:List T)(n:Nat)(d:Int)(b12 kk:Nat)(h0:AH)(j:Nat)(fr:AF)(h:AH):Prop:=∃ tm p M' gN gF sn dn,
 p+j=nv.K.length/\fr=⟨tm,⟨[],.no,none,140⟩⟩/\nth tm 1=i_ d/\nth tm 2=.ptr cM 0 0/\nth tm 3=.ptr cS_ 0 0/\nth tm 5=.ptr cW 0 0/\nth tm 9=.ptr h0.z 0 0/\nth tm 12=.ptr b12 0 0/\nth tm 14=.row kk 0 1 0 nv.K.length/\
 nth tm 63=.ls (nv.K.map AG.aO)/\nth tm 64=i_ (nv.K.length:Int)/\nth tm 65=i_ (p:Int)/\J1140 A B B1 E F kS cM cS_ cF cW fid caps Pf M nv ks n d b12 kk h0 h M' gN gF sn dn p
theorem c1140 (hK:aZ K)(km:KM K){kS m0 fid cM cS_ cF cW:Nat}{caps:List AV}{F:Int->Int->T}{Pf:AH->Prop}{M0:Ms}(fc:Fc K A B B1 E kS m0 fid caps F Pf M0):
  ∀ (n m:Nat) (M:Ms) (gN gF:Nat) (h:AH) (sn:List ((Int×Int)×Int)) (t:T) (d:Int),2*n+20+m0<=m->Le M0 M->St A B B1 E M gN gF h->Wg M->Ct M->At M.ts (n:Int) t->0<=d->d+n<=200000->
   Cl A (.fn fid [] caps) cM cS_ cF cW kS sn h->Ad B1 cM cS_ cF cW kS h.z->Sn F M sn->Pf h->
   ∃ o h',cS K m (.fn 140 [] [.ptr cM 0 0,.ptr cS_ 0 0,.ptr cF 0 0,.ptr cW 0 0]) [i_ (n:Int),i_ d] .no h=some (o,.no,h')/\Wk A B B1 E F kS M (rpT F t d) h o h':=by
 intro n;induction n using Nat.strongRecOn with
 |_ n ih=>
 intro m M gN gF h sn t d hm hle s g c at_ d0 d1 cl ad snk pf;obtain⟨m,rfl⟩:∃ k,m=k+1:=⟨m-1,o_⟩
 have run:=fun hR=>(mw hK) m [.ptr cM 0 0,.ptr cS_ 0 0,.ptr cF 0 0,.ptr cW 0 0] [i_ (n:Int),i_ d] _ .no h h _ _ _ (fun o rc h'=>rc=.no/\Wk A B B1 E F kS M (rpT F t d) h o h') ajc (ae (aG _ _ _) (ae (aG _ _ _) (aC _))) hR
 suffices hR:R (cS K m) 1000000000000 [.code aa7] (XQ (cS K m) Cb (ru fun o rc h'=>rc=.no/\Wk A B B1 E F kS M (rpT F t d) h o h')) .normal ⟨cT ([i_ (n:Int),i_ d]++[.ptr cM 0 0,.ptr cS_ 0 0,.ptr cF 0 0,.ptr cW 0 0]),⟨[],.no,none,140⟩⟩ h by
  obtain⟨o,rc,h',e,rfl,q⟩:=run hR;exact⟨o,h',e,q⟩
 clear run;have gM:=cl.gM;have gS:=cl.gS;have gFc:=cl.gF;have gW:=cl.gW;have gA:=s.gA;obtain⟨nv,ks,hn,rfl,lkn,hlt,tok,hfr⟩:=g.at_node at_;have hn:M.ns[n]?=some nv:=by simpa using hn
 have hfr:M.fr[n]?=some (eD (ndT nv ks)):=by simpa using hfr
 have hnl:n<M.ns.length:=(E_.1 hn).1;have hfl:n<M.fr.length:=by rw[g.lenF];exact hnl
 have hi:=fun h=>ju (kk:=A.kF) (g:=gF) (sz:=1) hfl h .i64
 have hl:=oK (a:=n) (x:=AG.aO (eD (ndT nv ks))) s.gF (by rw[xO,List.getElem?_map,hfr];rfl);unfold mL at gA;unfold AG.aO at hl;have fin:∀ (tm:Tm) (Hf:AH) (M':Ms) (gN' gF':Nat) (sn':List ((Int×Int)×Int)) (r:Int),nth tm 3=.ptr cS_ 0 0->nth tm 9=.ptr h.z 0 0->nth tm 13=i_ r->St A B B1 E M' gN' gF' Hf->Wg M'->Le M M'->Sv M M'->HX B B1 kS h Hf->
   Hf.get cS_=some (.box [.map kS])->Hf.get kS=some (.map (mpg Tk AG.aO sn'))->Hf.get h.z=some (.box [i_ (n:Int),i_ d])->Sn F M' sn'->At M'.ts r (rpT F (ndT nv ks) d)->
   R (cS K m) 1000000000000 [.code Ak] (XQ (cS K m) Cb (ru fun o rc h'=>rc=.no/\Wk A B B1 E F kS M (rpT F (ndT nv ks) d) h o h')) .normal ⟨tm,⟨[],.no,none,140⟩⟩ Hf:=by
  intro tm Hf M' gN' gF' sn' r t3 t9 t13 st g' le sv hx e3 ek e9 sk ar;have hmp:fK Hf 3 (.map kS) (.agg [i_ (n:Int),i_ d]) (i_ r)=_:=lU (kf:=Tk) (t:=3) AG.aO qO ek ((n:Int),d) r;unfold Ak;simp only[go_sem,simprocAttr,t3,e3,t9,e9,t13,hmp,JV];exact jE (vs:=[i_ r]) (.inr rfl) (by simp only[go_sem,simprocAttr,Cb]) ⟨i_ r,_,aS (by intro l e;cases e) (aG _ _ _),rfl,hx.set _ (.inr rfl),.inl ⟨_,rfl,M',gN',gF',_,st.set _ ad.lo.2.2.2.2,g',le,⟨sv,_,rfl,ar⟩,aH _ _ _,sk.add (le.at at_) ar⟩⟩
 unfold aa7;simp only[go_sem,simprocAttr,List.cons_append,List.nil_append,DK,gM,gA,hi,hl];refine aX (fun hf=>?_) (fun hf=>?_)
 ·simp only[go_sem,simprocAttr];refine jE (vs:=[i_ (n:Int)]) (.inr rfl) (by simp only[go_sem,simprocAttr,Cb]) ⟨i_ (n:Int),h,aS (by intro l e;cases e) (aG _ _ _),rfl,HX.refl h,.inl ⟨_,rfl,M,gN,gF,sn,s,g,Le.refl M,⟨Sv.refl c,_,rfl,?_⟩,cl.mS,snk⟩⟩;rw[yz _ _ hf];exact at_
 ·simp only[go_sem,simprocAttr,DL,WA];obtain⟨H1,hH1⟩:∃ H1:AH,H1=(h.new (.box [i_ 0,i_ 0])).set h.z (.box [i_ (n:Int),i_ d]):=⟨_,rfl⟩
  rw[<- hH1];have k1:HK h H1:=by rw[hH1];exact(HK.new _ _).set _ (e_ _)
  have g9:H1.get h.z=some (.box [i_ (n:Int),i_ d]):=by rw[hH1,aH]
  have nx1:H1.z=h.z+1:=by rw[hH1,alb,ala]
  have s1:=s.hk k1;have ad1:=ad.up k1.z;have cl1:Cl A (.fn fid [] caps) cM cS_ cF cW kS sn H1:=cl.hm ad (HK.m (B:=B) (B1:=B1) k1);have pf1:=fc.up _ _ pf (HM.x (HK.m k1));have x1:HX B B1 kS h H1:=(HK.m k1).x;clear hH1;have gM1:=cl1.gM;have gS1:=cl1.gS;have gF1:=cl1.gF;have gW1:=cl1.gW;have hk:∀ z,fm H1 3 z true (.map kS) (.agg [i_ (n:Int),i_ d])=_:=fun z=>kY (kf:=Tk) (t:=3) AG.aO qO cl1.mS ((n:Int),d) z true
  simp only[go_sem,simprocAttr,JQ,gS1,g9,hk];cases hlk:lkg sn ((n:Int),d) with
  |some o=>
   obtain⟨t',a1,a2⟩:=snk _ (sF hlk);have:=at_.det a1;subst this;simp only[go_sem,simprocAttr,AG.aO];exact jE (vs:=[i_ o]) (.inr rfl) (by simp only[go_sem,simprocAttr,Cb]) ⟨i_ o,H1,aS (by intro l e;cases e) (aG _ _ _),rfl,x1,.inl ⟨_,rfl,M,gN,gF,sn,s1,g,Le.refl M,⟨Sv.refl c,_,rfl,a2⟩,cl1.mS,snk⟩⟩
  |none=>
   obtain⟨o,H2,e,hm2,q⟩:=Iv hK (m:=m) o_ s1 g c;simp only[go_sem,simprocAttr,JR,gM1];rcases q with⟨v,rfl,rfl,M2,gN2,gF2,s2,g2,le2,rfl,sv2⟩|rfl
   ·have x2:HX B B1 kS h H2:=x1.trans hm2.x;have cl2:=cl1.hm ad1 hm2;have ad2:=ad1.up hm2.z;have pf2:=fc.up _ _ pf1 hm2.x;have b1:=s.b1;have g92:H2.get h.z=some (.box [i_ (n:Int),i_ d]):=(hm2.kw _ o_ (.inr o_)).trans g9;have c2:=sv2.ct c;have gM2:=cl2.gM;have gA2:=s2.gA;have cc:=s2.cell hn;have l5:=cc.l5;have ad2':∀ H,cz (.row A.kN gN2 5 0 M.ns.length) H 5 (i_ (n:Int))=.val (.ptr A.kN gN2 (n*5)) H:=fun H=>s2.addr hnl H
    unfold mL at gA2;unfold aT at l5;simp only[go_sem,simprocAttr,e,JS,gM2,gA2,ad2',l5];obtain⟨H3,hH3⟩:∃ H3:AH,H3=(H2.new (.box [i_ 0,i_ 0,.str (bs []),.nl,.nl])).set H2.z (.box [i_ nv.kind,i_ nv.idx,.str nv.name,.ls (nv.L.map ba),.ls (nv.K.map AG.aO)]):=⟨_,rfl⟩
    rw[<- hH3];have k3:HK H2 H3:=by rw[hH3];exact(HK.new _ _).set _ (e_ _)
    have g12:H3.get H2.z=some (.box [i_ nv.kind,i_ nv.idx,.str nv.name,.ls (nv.L.map ba),.ls (nv.K.map AG.aO)]):=by rw[hH3,aH]
    have nx3:H3.z=H2.z+1:=by rw[hH3,alb,ala]
    have nx2:=hm2.z;have s3:=s2.hk k3;have ad3:=ad2.up k3.z;have cl3:Cl A (.fn fid [] caps) cM cS_ cF cW kS sn H3:=cl2.hm ad2 (HK.m (B:=B) (B1:=B1) k3);have pf3:=fc.up _ _ pf2 (HM.x (HK.m k3));have x3:HX B B1 kS h H3:=x2.trans (HK.m k3).x;have g93:=(k3.kw _ o_).trans g92;clear hH3;have gM3:=cl3.gM;have gF3:=cl3.gF;simp only[go_sem,simprocAttr,JT,JU,g12];refine aX (fun hk0=>?_) (fun hk0=>?_)
    ·have i0:=(tok:TOK (ndT nv ks));unfold ndT TOK at i0;have j0:=i0.1.i0;have j1:=i0.1.i1;have hd0:0<=nv.idx-d:=by
      unfold ndT eD at hf;have hkk:ks=[]:=by
       have:=i0.1.K;rw[hk0]at this;exact List.length_eq_zero_iff.1 (by simpa [dW] using this)
      rw[hkk,P_ hk0]at hf;unfold fw at hf;omega
     have hw:IntKind.wrap .i64 (nv.idx-d)=nv.idx-d:=bI _ o_ o_;have hfr2:=fc.run m _ gN2 gF2 H3 (nv.idx-d) d o_ (hle.trans le2) s3 g2 c2 pf3 hd0 o_ d0 o_;obtain⟨o,H4,e4,hm4,q⟩:=hfr2;simp only[go_sem,simprocAttr,gF3,g12,hw];rcases q with⟨v,rfl,M4,gN4,gF4,s4,g4,le4,sv4,r,rfl,a4⟩|rfl
     ·have cl4:=cl3.hm ad3 hm4;simp only[go_sem,simprocAttr,e4];refine fin _ H4 M4 gN4 gF4 sn r k_ k_ k_ s4 g4 (le2.trans le4) (sv2.trans sv4) (x3.trans hm4.x) cl4.gS cl4.mS ((hm4.kw _ o_ (.inr o_)).trans g93) ((snk.up le2).up le4) ?_;unfold ndT rpT;rw[P_ hk0,N_ o_];exact a4
     ·simp only[go_sem,simprocAttr,e4];exact lP ⟨rfl,x3.trans hm4.x,.inr rfl⟩
    ·have hkl:nv.K.length<=3:=by
      have:=(g.nok (m_ hn)).nd.K;unfold dW at this;split at this
      ·omega
      ·split at this
       ·omega
       ·split at this<;>omega
     have emk:=OH nv.K.length o_ H3;obtain⟨H4,hH4⟩:∃ H4:AH,H4=H3.new (.row 0 1 false (flat ((List.replicate nv.K.length (0:Int)).map AG.aO)) 0):=⟨_,rfl⟩
     rw[<- hH4]at emk;have k4:HK H3 H4:=by rw[hH4];exact HK.new _ _
     have g124:=(k4.kw _ o_).trans g12;have row4:H4.get H3.z=some (.row 0 1 false (flat ((List.replicate nv.K.length (0:Int)).map AG.aO)) 0):=by rw[hH4,aE]
     have nx4:H4.z=H3.z+1:=by rw[hH4,ala]
     clear hH4;simp only[go_sem,simprocAttr,g12,emk,g124];refine bB (I1140 A B B1 E F kS cM cS_ cF cW fid caps Pf M nv ks n d H2.z H3.z h) nv.K.length o_ ⟨_,0,_,gN2,gF2,sn,[],o_,rfl,k_,k_,k_,k_,k_,k_,k_,k_,k_,k_,
      ⟨s3.hk k4,g2,le2,sv2,x3.trans (HK.m k4).x,cl3.hm ad3 (HK.m (B:=B) (B1:=B1) k4),snk.up le2,fc.up _ _ pf3 (HM.x (HK.m k4)),(k4.kw _ o_).trans g93,g124,by simpa using row4,by simp[Lk],o_,o_,rfl⟩⟩ ?_
     rintro j fr H5 ⟨tm,p,M5,gN5,gF5,sn5,dn,hp,rfl,t1,t2,t3,t5,t9,t12,t14,t63,t64,t65,J⟩;unfold PG;simp only[go_sem,simprocAttr,t65,t64,JW];refine aX (fun hlt5=>?_) (fun hge5=>?_)
     ·have hlt5:p<nv.K.length:=o_;have hget:nv.K[p]?=some nv.K[p]:=a_ hlt5;obtain⟨x,ex,ax⟩:=lkn.get hget;obtain⟨cn,ec,ecn⟩:=ax.nat;have hcn:cn<n:=by have:=hlt _ (m_ hget);omega
      rw[ec]at hget ax;have ha:=fun h=>aK (f:=AG.aO) (sz:=1) (fun _=>rfl) hget .i64 h
      have ele:=cu (cn:Int);have hbb:=iZ nv.kind p;have hw1:IntKind.wrap .i64 (d+cq nv.kind p)=d+cq nv.kind p:=bI _ o_ o_;have hw2:=aP p o_;have cb:=fun k j h=>afH hK (m-1) k j h
      rw[show m-1+1=m by omega]at cb;have ad5:Ad B1 cM cS_ cF cW kS H5.z:=ad.up J.hx.z;obtain⟨o6,H6,e6,x6,q6⟩:=ih cn hcn m M5 gN5 gF5 H5 sn5 x (d+cq nv.kind p) o_ (hle.trans J.le) J.st J.g (J.sv.ct c) (J.le.at ax) o_ o_ J.cl ad5 J.sn_ J.pf;have gW5:=J.cl.gW;have g125:=J.g12;have nxk:=J.nx;have dl:=J.dl;have lo:=ad.lo;have hi5:=ad5.hi;have hi0:=ad.hi;have dle:=J.pl;have hi1:=fun H=>ju (kk:=H3.z) (g:=0) (sz:=1) hlt5 H .i64
      simp only[go_sem,simprocAttr,JX,t1,t5,t12,t14,t63,t65,ha,ele,gW5,g125,cb,hw1];rcases q6 with⟨v,rfl,M6,gN6,gF6,sn6,st6,g6,le6,⟨sv6,r,rfl,a6⟩,mS6,sk6⟩|rfl
      ·have row6:=(x6.kw _ o_ (.inr o_) o_).trans J.row;have hst:=rJ (x:=AG.aO r) (a:=p) row6 (mI _) (by simp[dl];omega) rfl rfl;rw[<- List.map_set,Xa dn _ p r dl hlt5]at hst;have hst:dQ (.ptr H3.z 0 (p*1)) H6 1 (i_ r)=_:=hst;have bqf:AV.beq (.fn (140) [] [.ptr cM 0 0,.ptr cS_ 0 0,.ptr cF 0 0,.ptr cW 0 0]) (.fn (140) [] [.ptr cM 0 0,.ptr cS_ 0 0,.ptr cF 0 0,.ptr cW 0 0])=true:=by simp[AV.beq,AV.beqs]
       simp only[go_sem,simprocAttr,e6,hi1,hst,t5,gW5,bqf,t65,hw2];have ad6:Ad B1 cM cS_ cF cW kS H6.z:=ad5.up x6.z;have s7:=st6.set (.row 0 1 false (flat ((dn++[r]++List.replicate (nv.K.length-(p+1)) 0).map AG.aO)) 0) (k:=H3.z) o_;have x7:HX B B1 kS h (H6.set H3.z (.row 0 1 false (flat ((dn++[r]++List.replicate (nv.K.length-(p+1)) 0).map AG.aO)) 0)):=(J.hx.trans x6).set _ (.inl o_);refine⟨j-1,o_,_,p+1,M6,gN6,gF6,sn6,dn++[r],o_,rfl,q_ t1,q_ t2,q_ t3,q_ t5,q_ t9,q_ t12,q_ t14,q_ t63,q_ t64,k_,
        ⟨s7,g6,J.le.trans le6,J.sv.trans sv6,x7,?_,sk6,?_,?_,?_,aH _ _ _,?_,o_,by rw[alb];have:=x6.z;omega,by simp[dl]⟩⟩
       ·exact cl.hx ad x7 (by rw[aB o_];exact mS6)
       ·exact fc.up _ _ pf x7
       ·rw[aB o_];exact(x6.kw _ o_ (.inr o_) o_).trans J.g9
       ·rw[aB o_];exact(x6.kw _ o_ (.inr o_) o_).trans J.g12
       ·rw[Ri _ _ _ _ _ ex];exact(le6.lk J.lk).snoc a6
      ·have bqf:AV.beq (.fn (140) [] [.ptr cM 0 0,.ptr cS_ 0 0,.ptr cF 0 0,.ptr cW 0 0]) (.fn (140) [] [.ptr cM 0 0,.ptr cS_ 0 0,.ptr cF 0 0,.ptr cW 0 0])=true:=by simp[AV.beq,AV.beqs]
       simp only[go_sem,simprocAttr,e6,t5,gW5,bqf];exact lP ⟨rfl,J.hx.trans x6,.inr rfl⟩
     ·have hp5:p=nv.K.length:=by have:=J.pl;omega
      subst hp5;have g125:=J.g12;have nxk:=J.nx;have dl:=J.dl;have lo:=ad.lo;have hi0:=ad.hi;have row5:=J.row;have lk5:=J.lk;rw[Nat.sub_self,List.replicate_zero,A_]at row5;rw[lkn.len,List.take_of_length_le (by rw[wu];exact e_ _)]at lk5;have nx5:=J.hx.z;have b12:H2.z<H3.z:=o_;obtain⟨H6,hH6⟩:∃ H6:AH,H6=H5.set H2.z (.box [i_ nv.kind,i_ nv.idx,.str nv.name,.ls (nv.L.map ba),.row H3.z 0 1 0 nv.K.length]):=⟨_,rfl⟩
      have g6:H6.get H2.z=some (.box [i_ nv.kind,i_ nv.idx,.str nv.name,.ls (nv.L.map ba),.row H3.z 0 1 0 nv.K.length]):=by rw[hH6,aH]
      have row6:H6.get H3.z=some (.row 0 1 false (flat (dn.map AG.aO)) 0):=by rw[hH6,aB o_];exact row5
      obtain⟨H7,ec7,n7,k7⟩:=Ff nv.kind nv.idx nv.name nv.L dn (by rw[dl]) row6 (by rw[hH6,alb];exact nxk);have o6:∀ k,k≠H2.z->k≠H3.z->H7.get k=H5.get k:=fun k q1 q2=>by rw[k7 k q2,hH6,aB q1]
      have n75:H7.z=H5.z:=by rw[n7,hH6,alb]
      have s7:St A B B1 E M5 gN5 gF5 H7:=J.st.up o_ fun k _ q=>o6 k o_ o_
      have x57:HX B B1 kS h H7:=⟨o_,fun k q1 q2 q3=>by rw[o6 k o_ o_];exact J.hx.kw k q1 q2 q3⟩;have tok7:TOK (ndT ⟨nv.kind,nv.idx,nv.name,nv.L,dn⟩ (re F nv.kind 0 ks d)):=by
       have:=(tok:TOK (ndT nv ks));unfold ndT TOK at this ⊢;refine⟨by rw[wu];exact this.1,ly.2 fun t ht=>?_⟩;obtain⟨j,hj⟩:=List.getElem?_of_mem ht;obtain⟨c',_,ac⟩:=lk5.get' hj;exact J.g.atok ac
      obtain⟨o8,H8,e8,hm8,q8⟩:=Hq hK km (m-3) s7 J.g ⟨nv.kind,nv.idx,nv.name,nv.L,dn⟩ (re F nv.kind 0 ks d) lk5 tok7;rw[<- jo (f:=96) (c:=[]) (ae (bD A.a 0 0 H6) (ae ec7 (aC _))) (ae (bD _ _ _ _) (ae (jT _ _) (aC _))),show m-3+3=m by omega]at e8;have gM5:=J.cl.gM;have gM6:=(show H6.get cM=H5.get cM by rw[hH6,aB o_]).trans gM5;simp only[go_sem,simprocAttr,t14,t12,t2,g125];rw[<- hH6];clear hH6;simp only[go_sem,simprocAttr,t12,gM6,g6];rcases q8 with⟨v,rfl,M8,gN8,gF8,st8,g8,le8,sm8,r,rfl,a8⟩|rfl
      ·simp only[go_sem,simprocAttr,e8];have x8:HX B B1 kS h H8:=x57.trans hm8.x;have keep8:∀ k,k<H7.z->B1<=k->k≠H2.z->k≠H3.z->H8.get k=H5.get k:=fun k q1 q2 q3 q4=>(hm8.kw k q1 (.inr q2)).trans (o6 k q3 q4)
       refine fin _ H8 M8 gN8 gF8 sn5 r (q_ t3) (q_ t9) k_ st8 g8 (J.le.trans le8) (J.sv.trans (sm8.v (J.sv.ct c))) x8 ?_ ?_ ?_ (J.sn_.up le8) ?_
       ·rw[keep8 _ o_ o_ o_ o_];exact J.cl.gS
       ·rw[keep8 _ o_ o_ o_ o_];exact J.cl.mS
       ·rw[keep8 _ o_ o_ o_ o_];exact J.g9
       ·unfold ndT rpT;rw[N_ hk0];exact a8
      ·simp only[go_sem,simprocAttr,e8];exact lP ⟨rfl,x57.trans hm8.x,.inr rfl⟩
   ·simp only[go_sem,simprocAttr,e];exact lP ⟨rfl,x1.trans hm2.x,.inr rfl⟩
end
mutual
theorem uE:∀ (t:T) (d:Int),TOK t->pU 0 t d=t
 |.mk k i nm ls ks,d,h=>by
  unfold TOK at h;unfold pU;by_cases hk:k=0
  ·rw[P_ hk];split
   ·rfl
   ·have hkk:ks=[]:=by
     have:=h.1.K;rw[hk]at this;exact List.length_eq_zero_iff.1 (by simpa [dW] using this)
    rw[hk,h.1.name o_,h.1.lev.2.2 o_ o_,hkk,Int.add_zero]
  ·rw[N_ hk,tF k ks 0 d h.2]
theorem tF (k:Int):∀ (l:List T) (j:Nat) (d:Int),xv l->pG 0 k j l d=l
 |[],_,_,_=>rfl
 |t::l,j,d,h=>by
  unfold xv at h;unfold pG;rw[uE t _ h.1,tF k l (j+1) d h.2]
end
theorem Iw (h:AH)(k g o:Nat):dB h 1 (.ptr k g o)=.val (.ptr h.z 0 0) (h.new (.box [.ptr k g o])):=(rfl)
theorem akp (h:AH)(f:FuncId)(a b:List AV):dB h 1 (.fn f a b)=.val (.ptr h.z 0 0) (h.new (.box [.fn f a b])):=(rfl)
theorem Zu (h:AH)(k:IntKind)(n:Int):dB h 1 (.int k n)=.val (.ptr h.z 0 0) (h.new (.box [.int k n])):=(rfl)
theorem ako (h:AH)(l:List AV):dB h 1 (.ls l)=.val (.ptr h.z 0 0) (h.new (.box [.ls l])):=(rfl)
section
variable {K:aQ}{A:Ma}{B B1:Nat}{E:AV}{M:Ms}{gN gF:Nat}{h:AH}
theorem Zs (hK:aZ K)(km:KM K){m:Nat}(hm:4<=m)(s:St A B B1 E M gN gF h)(g:Wg M)(i:Int):Mc K m A B B1 E (102) [] [.ptr A.a 0 0,i_ i] M h fun M' v=>0<=i/\i<=65535/\Px (.mk 0 i (bs []) [] []) M M' v:=by
 obtain⟨k,rfl⟩:∃ k,m=k+4:=⟨m-4,o_⟩
 exact c1102 hK km k s g i
theorem afI (hK:aZ K)(km:KM K){m0 fid:Nat}{caps:List AV}{F:Int->Int->T}{Pf:AH->Prop}{M0:Ms}(fc:Fc K A B B1 E (h.z+2) m0 fid caps F Pf M0)(hle:Le M0 M)(hcap:AV.ald caps=caps){m:Nat}(hm:131102+m0<=m)
  (s:St A B B1 E M gN gF h) (g:Wg M) (c:Ct M) {x:Int} {t:T} (hx:At M.ts x t) {d:Int} (d0:0<=d) (d1:d<=100000) (pf:Pf h) :
  Mc K m A B B1 E (99) [] [.ptr A.a 0 0,i_ x,i_ d,.fn fid [] caps] M h fun M' v=>Pv (rpT F t d) M M' v:=by
 obtain⟨m,rfl⟩:∃ k,m=k+1:=⟨m-1,o_⟩
 have b1:=s.b1;refine fG hK ajt (ae (bD _ _ _ _) (ae (aG _ _ _) (ae (aG _ _ _) (ae (v':=.fn fid [] caps) (h1:=h) (by rw[iR,hcap];simp[AV.ald]) (aC _))))) ?_;unfold agE;simp only[go_sem,simprocAttr,Iw,akp,Lb,Lc,Lf];simp only[ala,alb,Nat.add_assoc,Nat.reduceAdd];obtain⟨H,hH⟩:∃ H:AH,H=(((((((h.new (.box [.ptr A.a 0 0])).new (.box [.fn fid [] caps])).new (.map [])).new (.box [.nilm])).set (h.z+3) (.box [.map (h.z+2)])).new (.box [.nilf])).set (h.z+4) (.box [.fn (140) [] [.ptr h.z 0 0,.ptr (h.z+3) 0 0,.ptr (h.z+1) 0 0,.ptr (h.z+4) 0 0]])):=⟨_,rfl⟩
 rw[<- hH];have n1:(h.new (.box [.ptr A.a 0 0])).z=h.z+1:=ala _ _;have n2:((h.new (.box [.ptr A.a 0 0])).new (.box [.fn fid [] caps])).z=h.z+2:=by rw[ala,n1]
 have n3:(((h.new (.box [.ptr A.a 0 0])).new (.box [.fn fid [] caps])).new (.map [])).z=h.z+3:=by rw[ala,n2]
 have n4:((((h.new (.box [.ptr A.a 0 0])).new (.box [.fn fid [] caps])).new (.map [])).new (.box [.nilm])).z=h.z+4:=by rw[ala,n3]
 have nH:H.z=h.z+5:=by rw[hH,alb,ala,alb,n4]
 have e:∀ k,H.get k=if k=h.z+4 then some (.box [.fn (140) [] [.ptr h.z 0 0,.ptr (h.z+3) 0 0,.ptr (h.z+1) 0 0,.ptr (h.z+4) 0 0]]) else if k=h.z+3 then some (.box [.map (h.z+2)]) else if k=h.z+2 then some (.map []) else if k=h.z+1 then some (.box [.fn fid [] caps]) else if k=h.z then some (.box [.ptr A.a 0 0]) else h.get k:=by
  intro k;rw[hH,get_set,get_new,alb,n4,get_set,get_new,n3,get_new,n2,get_new,n1,get_new];by_cases q4:k=h.z+4
  ·rw[P_ q4,P_ q4]
  ·rw[N_ q4,N_ q4,N_ q4];by_cases q3:k=h.z+3
   ·rw[P_ q3,P_ q3]
   ·rw[N_ q3,N_ q3,N_ q3]
 clear hH n1 n2 n3 n4;have kk:HK h H:=⟨o_,fun k hk=>by rw[e,N_ o_,N_ o_,N_ o_,N_ o_,N_ o_]⟩;have cl:Cl A (.fn fid [] caps) h.z (h.z+3) (h.z+1) (h.z+4) (h.z+2) [] H:=by
  refine⟨?_,?_,?_,?_,?_⟩
  ·rw[e,N_ o_,N_ o_,N_ o_,N_ o_,P_ rfl]
  ·rw[e,N_ o_,P_ rfl]
  ·rw[e,N_ o_,N_ o_,N_ o_,P_ rfl]
  ·rw[e,P_ rfl]
  ·rw[e,N_ o_,N_ o_,P_ rfl];rfl
 obtain⟨xn,rfl,ex⟩:=hx.nat;have hxl:xn<M.ns.length:=by rw[<- g.len];exact(E_.1 ex).1
 have hmost:=g.most;obtain⟨o,h',ec,x',q⟩:=c1140 hK km fc xn m M gN gF H [] t d o_ hle (s.hk kk) g c hx d0 o_ cl ⟨o_,o_,o_⟩ (fun e he=>by cases he) (fc.up _ _ pf (HM.x (HK.m kk)));have hm':HM B B1 h h':=⟨by have:=x'.z;omega,fun k q1 q2=>(x'.kw k o_ q2 o_).trans (kk.kw k q1)⟩;have gW:=cl.gW;simp only[go_sem,simprocAttr,Lg,gW];rcases q with⟨v,rfl,M',gN',gF',sn,st,g',le,⟨sv,r,rfl,a⟩,_,_⟩|rfl
 ·simp only[go_sem,simprocAttr,ec];exact fR (.inr rfl) (by simp only[go_sem,simprocAttr,ae6]) hm' ⟨M',gN',gF',st,g',le,sv,r,rfl,a⟩
 ·simp only[go_sem,simprocAttr,ec];exact cB hm'
structure Pl (A:Ma)(b:Int)(k:Nat)(h:AH):Prop where
 gM:h.get k=some (.box [.ptr A.a 0 0])
 gB:h.get (k+1)=some (.box [i_ b])
 lt:k+2<=h.z
theorem fcl (hK:aZ K)(km:KM K){k kS:Nat}(b:Int)(hb : -100000<=b/\b<=300000)(hk:B1<=k)(hS:k+2<=kS)(M0:Ms):Fc K A B B1 E kS 10 (141) [.ptr k 0 0,.ptr (k+1) 0 0] (Fl b) (Pl A b k) M0 where
 up h h' p x:=⟨(x.kw _ (by have:=p.lt;omega) (.inr hk) o_).trans p.gM,(x.kw _ (by have:=p.lt;omega) (.inr o_) o_).trans p.gB,Nat.le_trans p.lt x.z⟩
 run m M gN gF h i d hm _ s g c p i0 i1 d0 d1:=by
  obtain⟨m,rfl⟩:∃ k,m=k+1:=⟨m-1,o_⟩
  refine fG hK ajb (ae (aG _ _ _) (ae (aG _ _ _) (aC _))) ?_;have gM:=p.gM;have gB:=p.gB;have hw1:IntKind.wrap .i64 (i+d)=i+d:=bI _ o_ o_;have hw2:IntKind.wrap .i64 (i+d+b)=i+d+b:=bI _ o_ o_;obtain⟨o,h',e,hm',q⟩:=Zs (m:=m) hK km o_ s g (i+d+b);unfold agn;simp only[go_sem,simprocAttr,List.cons_append,List.nil_append,JP,gM,gB,hw1,hw2];rcases q with⟨v,rfl,M',gN',gF',st,g',le,_,_,sm,r,rfl,a⟩|rfl
  ·simp only[go_sem,simprocAttr,e];exact fR (.inr rfl) (by simp only[go_sem,simprocAttr,ae3]) hm' ⟨M',gN',gF',st,g',le,sm.v c,r,rfl,a⟩
  ·simp only[go_sem,simprocAttr,e];exact cB hm'
theorem c1101 (hK:aZ K)(km:KM K){m:Nat}(hm:131130<=m)(s:St A B B1 E M gN gF h)(g:Wg M)(c:Ct M){x:Int}{t:T}(hx:At M.ts x t){b:Int}(hb : -100000<=b/\b<=300000):
  Mc K m A B B1 E (101) [] [.ptr A.a 0 0,i_ x,i_ b] M h fun M' v=>Pv (pU b t 0) M M' v:=by
 obtain⟨m,rfl⟩:∃ k,m=k+1:=⟨m-1,o_⟩
 have b1:=s.b1;refine fG hK ajr (ae (bD _ _ _ _) (ae (aG _ _ _) (ae (aG _ _ _) (aC _)))) ?_;unfold agC;simp only[go_sem,simprocAttr,Iw,Zu,KX,ala];obtain⟨H,hH⟩:∃ H:AH,H=(h.new (.box [.ptr A.a 0 0])).new (.box [i_ b]):=⟨_,rfl⟩
 have kk:HK h H:=by rw[hH];exact(HK.new _ _).add _
 have p:Pl A b h.z H:=by
  have n1:=ala h (.box [.ptr A.a 0 0]);refine⟨?_,?_,?_⟩
  ·rw[hH,aL o_,aE]
  ·rw[hH,<- n1,aE]
  ·rw[hH,ala,n1];omega
 rw[<- hH];have nH:H.z=h.z+2:=by rw[hH,ala,ala]
 clear hH;have gM:=p.gM;have gB:=p.gB;simp only[go_sem,simprocAttr,gB];refine aX (fun h0=>?_) (fun h0=>?_)
 ·simp only[go_sem,simprocAttr];refine fR (.inr rfl) (by simp only[go_sem,simprocAttr,aaz]) (HK.m kk) ⟨M,gN,gF,s.hk kk,g,Le.refl M,Sv.refl c,x,rfl,?_⟩;rw[h0,uE t 0 (g.atok hx)];exact hx
 ·have fc:=fcl (A:=A) (B:=B) (B1:=B1) (E:=E) hK km (k:=h.z) (kS:=H.z+2) b hb o_ o_ M;obtain⟨o,h',e,hm',q⟩:=afI (d:=0) hK km fc (Le.refl M) (by simp[AV.ald,AV.norm]) (m:=m) o_ (s.hk kk) g c hx o_ o_ p;simp only[go_sem,simprocAttr,KY,gM];rcases q with⟨v,rfl,M',gN',gF',st,g',le,sv,r,rfl,a⟩|rfl
  ·simp only[go_sem,simprocAttr,e];refine fR (.inr rfl) (by simp only[go_sem,simprocAttr,aaz]) ((HK.m kk).trans hm') ⟨M',gN',gF',st,g',le,sv,r,rfl,?_⟩;rw[Em]at a;exact a
  ·simp only[go_sem,simprocAttr,e];exact cB ((HK.m kk).trans hm')
structure Pp (A:Ma)(ids:List Int)(k:Nat)(h:AH):Prop where
 gM:h.get k=some (.box [.ptr A.a 0 0])
 gB:h.get (k+1)=some (.box [.ls (ids.map AG.aO)])
 lt:k+2<=h.z
theorem fcp (hK:aZ K)(km:KM K){k kS:Nat}(ids:List Int)(vs:List T)(M0:Ms)(lk:Lk M0.ts ids vs)(hl:ids.length<=100000)(hk:B1<=k)(hS:k+2<=kS):Fc K A B B1 E kS 131140 (100) [.ptr (k+1) 0 0,.ptr k 0 0] (Fp vs) (Pp A ids k) M0 where
 up h h' p x:=⟨(x.kw _ (by have:=p.lt;omega) (.inr hk) o_).trans p.gM,(x.kw _ (by have:=p.lt;omega) (.inr o_) o_).trans p.gB,Nat.le_trans p.lt x.z⟩
 run m M gN gF h i d hm hle s g c p i0 i1 d0 d1:=by
  obtain⟨m,rfl⟩:∃ k,m=k+1:=⟨m-1,o_⟩
  refine fG hK ajs (ae (aG _ _ _) (ae (aG _ _ _) (aC _))) ?_;have gM:=p.gM;have gB:=p.gB;have lk':=hle.lk lk;have hlen:=lk.len;obtain⟨n,rfl⟩:∃ n:Nat,i=n:=⟨i.toNat,o_⟩
  unfold agD;simp only[go_sem,simprocAttr,List.cons_append,List.nil_append,KZ,gB,L_];refine aX (fun hlt=>?_) (fun hge=>?_)
  ·have hlt:n<ids.length:=o_;have hget:ids[n]?=some ids[n]:=a_ hlt;obtain⟨t,et,at_⟩:=lk'.get hget;have ha:=fun h=>aK (f:=AG.aO) (sz:=1) (fun _=>rfl) hget .i64 h
   have ele:=cu ids[n];obtain⟨o,h',e,hm',q⟩:=c1101 (m:=m) hK km o_ s g c at_ (b:=d) o_;simp only[go_sem,simprocAttr,gM,gB,ha,ele];rcases q with⟨v,rfl,M',gN',gF',st,g',le,sv,r,rfl,a⟩|rfl
   ·simp only[go_sem,simprocAttr,e];refine fR (.inr rfl) (by simp only[go_sem,simprocAttr,aaA]) hm' ⟨M',gN',gF',st,g',le,sv,r,rfl,?_⟩;unfold Fp;rw[Int.toNat_natCast,et];exact a
   ·simp only[go_sem,simprocAttr,e];exact cB hm'
  ·have hge:ids.length<=n:=o_;have hw1:IntKind.wrap .i64 ((n:Int)-ids.length)=n-ids.length:=bI _ o_ o_;have hw2:IntKind.wrap .i64 ((n:Int)-ids.length+d)=n-ids.length+d:=bI _ o_ o_;obtain⟨o,h',e,hm',q⟩:=Zs (m:=m) hK km o_ s g (n-ids.length+d);simp only[go_sem,simprocAttr,La,gM,gB,L_,hw1,hw2];rcases q with⟨v,rfl,M',gN',gF',st,g',le,_,_,sm,r,rfl,a⟩|rfl
   ·simp only[go_sem,simprocAttr,e];refine fR (.inr rfl) (by simp only[go_sem,simprocAttr,aaA]) hm' ⟨M',gN',gF',st,g',le,sm.v c,r,rfl,?_⟩;unfold Fp;rw[Int.toNat_natCast,List.getElem?_eq_none o_,<- hlen];exact a
   ·simp only[go_sem,simprocAttr,e];exact cB hm'
theorem aa4 (hK:aZ K)(km:KM K){m:Nat}(hm:262300<=m)(s:St A B B1 E M gN gF h)(g:Wg M)(c:Ct M){x:Int}{t:T}(hx:At M.ts x t){ids:List Int}{vs:List T}(lk:Lk M.ts ids vs)(hl:ids.length<=100000):
  Mc K m A B B1 E (62) [] [.ptr A.a 0 0,i_ x,.ls (ids.map AG.aO)] M h fun M' v=>Pv (jB vs t 0) M M' v:=by
 obtain⟨m,rfl⟩:∃ k,m=k+1:=⟨m-1,o_⟩
 have b1:=s.b1;refine fG hK ajL (ae (bD _ _ _ _) (ae (aG _ _ _) (ae (dM _ _) (aC _)))) ?_;unfold agW;simp only[go_sem,simprocAttr,Iw,ako,My,ala];obtain⟨H,hH⟩:∃ H:AH,H=(h.new (.box [.ptr A.a 0 0])).new (.box [.ls (ids.map AG.aO)]):=⟨_,rfl⟩
 have kk:HK h H:=by rw[hH];exact(HK.new _ _).add _
 have p:Pp A ids h.z H:=by
  have n1:=ala h (.box [.ptr A.a 0 0]);refine⟨?_,?_,?_⟩
  ·rw[hH,aL o_,aE]
  ·rw[hH,<- n1,aE]
  ·rw[hH,ala,n1];omega
 rw[<- hH];have nH:H.z=h.z+2:=by rw[hH,ala,ala]
 clear hH;have gM:=p.gM;have gB:=p.gB;have fc:=fcp (A:=A) (B:=B) (B1:=B1) (E:=E) hK km (k:=h.z) (kS:=H.z+2) ids vs M lk hl o_ o_;obtain⟨o,h',e,hm',q⟩:=afI (d:=0) hK km fc (Le.refl M) (by simp[AV.ald,AV.norm]) (m:=m) o_ (s.hk kk) g c hx o_ o_ p;simp only[go_sem,simprocAttr,gM];rcases q with⟨v,rfl,M',gN',gF',st,g',le,sv,r,rfl,a⟩|rfl
 ·simp only[go_sem,simprocAttr,e];refine fR (.inr rfl) (by simp only[go_sem,simprocAttr,afc]) ((HK.m kk).trans hm') ⟨M',gN',gF',st,g',le,sv,r,rfl,?_⟩;rw[El]at a;exact a
 ·simp only[go_sem,simprocAttr,e];exact cB ((HK.m kk).trans hm')
end
