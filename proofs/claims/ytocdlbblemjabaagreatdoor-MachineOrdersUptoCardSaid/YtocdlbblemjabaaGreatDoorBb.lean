/- Lemmas for MachineOrders (no condition). -/
import Derived.Test.YtocdlbblemjabaaGreatDoorAx
set_option linter.defProp false
namespace Go.Proofs.YtocdlbblemjabaaGreatDoor
open Go.AG Go.AG.MK
def Pv (t:T)(M:Ms)(a:Ms)(v:AV):Prop:=Sv M a/\∃r,v=.I r/\At a.ts r t
def El (n:Nat)(c:n<=100000)(H:AH):jJ H false 1 8 [.I 0] (.I (n:Int)) (.I (n:Int))=some (.row H.z 0 1 0 n,H.new (.row 0 1 false (bJ ((List.replicate n (0:Int)).map AG.bh)) 0)):=by
 have e:py (.I (n:Int)) 9223372036854775807=some n:=by
  show aI (some n) (λm=>cond (Nat.ble m 9223372036854775807) (some m) none)=_;have b:n<=9223372036854775807:=o_;rw[aK,fK b];rfl
 unfold jJ;rw[e,aK,aK];have a:n*8<=140737488355328:=o_;show cond (and (Nat.beq n n) (and (Nat.ble (n*8) 140737488355328) true)) (some (AV.row H.z 0 1 0 n,H.new (.row 0 1 false (Bc n [.I 0]) 0))) none=_;rw[fR,fK a,List.map_replicate,mq];rfl
def Kh (a:List Int)(L p:Nat)(r:Int)(h:a.length=p)(c:p<L):(a++List.replicate (L-p) 0).set p r=a++[r]++List.replicate (L-(p+1)) 0:=by
 have⟨q,b⟩:∃q,L-p=q+1:=⟨L-p-1,o_⟩;rw[b,List.replicate_succ,show L-(p+1)=q by omega,<-h,List.set_append_right _ _ (e_ _),Nat.sub_self];simp
def AJ {H:AH}{b L:Nat}(k i:Int)(nm:ByteArray)(ls:List LL)(a:List Int)(n:L=a.length)(hk:H.get b=some (.row 0 1 false (bJ (a.map AG.bh)) 0))(c:b<H.z):
  ∃d,cw (.agg [.I k,.I i,.str nm,.eL ls,.row b 0 1 0 L]) H=(bU ⟨k,i,nm,ls,a⟩,d)/\d.z=H.z/\∀j,j≠b->d.get j=H.get j:=by
 have o:Own 0 1 false H (.row b 0 1 0 L) (a.map AG.bh):=⟨mB a,.inr ⟨b,0,by rw[L_,n],hk,c,Nat.zero_le _⟩⟩;rcases iT o (λ_=>rfl) with⟨e,_,_⟩|⟨p,g,m,h,_,_⟩
 ·cases e
 cases m;refine⟨H.set b (.row 0 1 false (bJ (a.map AG.bh)) ((a.map AG.bh).length*1)),?_,aE _ _ _,λj f=>aA f⟩;show((AV.agg (cL _ H).1).norm,(cL _ H).2)=_;have l:cL [.I k,.I i,.str nm,.eL ls,.row b 0 1 0 (a.map AG.bh).length] H=([.I k,.I i,.str nm,.eL ls,.eI a],H.set b (.row 0 1 false (bJ (a.map AG.bh)) ((a.map AG.bh).length*1))):=by
  show(_::_::_::_::(dM (.row b 0 1 0 (a.map AG.bh).length) H).1 :: [],(dM (.row b 0 1 0 (a.map AG.bh).length) H).2)=_;rw[h];rfl
 rw[l];simp[bU,AV.norm,AV.norms,bB iS,bB ik]
section
variable {K:aN}{A:Ma}{B B1:Nat}{E:AV}
structure Ad (B1 cM cS cF cW kS:Nat)(O:Nat->Prop)(top:Nat):Prop where
 lo:B1<=cM/\B1<=cS/\B1<=cF/\B1<=cW/\B1<=kS
 hi:cM<top/\cS<top/\cF<top/\cW<top/\kS<top
 ne:cM≠kS/\cS≠kS/\cF≠kS/\cW≠kS
 no:¬O cM/\¬O cS/\¬O cF/\¬O cW/\¬O kS
 lt:∀k,O k->k<top
def Ad.up {g cS e f d c b:Nat}{O:Nat->Prop}(a:Ad B1 g cS e f d O c)(h:c<=b):Ad B1 g cS e f d O b:=⟨a.lo,by have:=a.hi;omega,a.ne,a.no,λk q=>B_ (a.lt k q) h⟩
theorem Ad.nx {f cS d e c b:Nat}{O:Nat->Prop}(a:Ad B1 f cS d e c O b){k:Nat}(h:b<=k):¬KO c O k:=by
 rintro(rfl|q)
 ·have:=a.hi;omega
 have:=a.lt _ q;omega
theorem Cl.hx {k:AV}{j cS g f b:Nat}{O:Nat->Prop}{r d:List ((Int×Int)×Int)}{h i:AH}(c:Cl A k j cS g f b r h)(a:Ad B1 j cS g f b O h.z)(x:HX B B1 (KO b O) h i)(e:i.get b=some (.map (mpg Ql AG.bh d))):Cl A k j cS g f b d i:=by
 have⟨v,q,l,D,_⟩:=a.lo;have⟨u,s,t,y,_⟩:=a.hi;have⟨n1,n2,p,z⟩:=a.ne;have⟨o,C,n,m,_⟩:=a.no;exact⟨(x.kw _ u (.inr (.inl v)) (λw=>w.elim n1 o)).trans c.gM,(x.kw _ s (.inr (.inl q)) (λw=>w.elim n2 C)).trans c.gS,(x.kw _ t (.inr (.inl l)) (λw=>w.elim p n)).trans c.gF,(x.kw _ y (.inr (.inl D)) (λw=>w.elim z m)).trans c.gW,e⟩
theorem Cl.ho {g:AV}{f cS d e b:Nat}{O:Nat->Prop}{j:List ((Int×Int)×Int)}{h i:AH}(c:Cl A g f cS d e b j h)(a:Ad B1 f cS d e b O h.z)(x:HX B B1 O h i):Cl A g f cS d e b j i:=
 c.hx (B:=B) a (x.le λ_ q=>.inr q) ((x.kw _ a.hi.2.2.2.2 (.inr (.inl a.lo.2.2.2.2)) a.no.2.2.2.2).trans c.mS)
theorem Cl.hm {g:AV}{f cS d e b:Nat}{O:Nat->Prop}{j:List ((Int×Int)×Int)}{h i:AH}(c:Cl A g f cS d e b j h)(a:Ad B1 f cS d e b O h.z)(x:HM B B1 h i):Cl A g f cS d e b j i:=
 c.ho (B:=B) a x.x
structure Fc (K:aN)(A:Ma)(B B1:Nat)(E:AV)(O:Nat->Prop)(kS fid:Nat)(caps:List AV)(F:Int->Int->T)(Pf:Bool->AH->Prop)(M0:Ms):Prop where
 up:∀q h h',Pf q h->h.z<=h'.z->(∀k,k<kS->B1<=k->k<h.z->h'.get k=h.get k)->Pf q h'
 run:∀M gN gF h i d q,Le M0 M->St A B B1 E M gN gF h->Wg M->Ct M->Pf q h->0<=i->i<=65535->0<=d->d<=200000->∃o h',cS K (.fn fid [] caps) [.I i,.I d] .no h=some (o,.no,h')/\HX B B1 O h h'/\((∃v,o=.ret v/\(Gq A B B1 E M h' λM'=>Pv (F i d) M M' v)/\Pf (q||decide (i=0)) h')\/o=.pan pv)
theorem Fc.hm {O:Nat->Prop}{g d:Nat}{a:List AV}{F:Int->Int->T}{e:Bool->AH->Prop}{i:Ms}(j:Fc K A B B1 E O g d a F e i){q:Bool}{h f:AH}(p:e q h)(x:HM B B1 h f):e q f:=j.up _ _ _ p x.z λk _ b c=>x.kw k c (.inr (.inl b))
theorem Fc.st {O:Nat->Prop}{e c:Nat}{b:List AV}{F:Int->Int->T}{d:Bool->AH->Prop}{f:Ms}(g:Fc K A B B1 E O e c b F d f){q:Bool}{h:AH}(p:d q h){k:Nat}(o:dF)(hk:e<=k):d q (h.set k o):=g.up _ _ _ p (by rw[aE];exact e_ _) λj a _ _=>aA o_
def Bz [RunsM K]{M:Ms}{gN gF:Nat}{h:AH}(s:St A B B1 E M gN gF h)(g:Wg M)(c:Ct M):
  Cm K B B1 (61) [] [.P A.a] h λv a=>v=.tup []/\Gq A B B1 E M a λb=>b={M with vis:=M.vis+1}/\Sv M b:=by
 have⟨o,a,e,hm,q⟩:=c1061 s c.v0 c.v1;refine⟨o,a,e,hm,?_⟩;rcases q with⟨v,rfl,rfl,d,st⟩|rfl
 ·exact .inl ⟨_,rfl,rfl,_,gN,gF,st,⟨g.len,g.lenF,g.most,g.node,g.free,g.tok,g.nd⟩,⟨⟨[],by simp⟩,⟨[],by simp⟩⟩,rfl,⟨rfl,rfl,rfl,by show M.vis<=M.vis+1;omega,by show M.vis+1<=4000000;omega⟩⟩
 exact .inr rfl
def Wk (A:Ma)(B B1:Nat)(E:AV)(F:Int->Int->T)(O:Nat->Prop)(c:Nat)(e:Bool->AH->Prop)(q:Bool)(M:Ms)(t:T)(h:AH)(o:ep)(b:AH):Prop:=HX B B1 (KO c O) h b/\
 ((∃v,o=.ret v/\∃a gN gF d,St A B B1 E a gN gF b/\Wg a/\Le M a/\Pv t M a v/\b.get c=some (.map (mpg Ql AG.bh d))/\Sn F q a d/\e q b)\/o=.pan pv)
structure J1140 (A:Ma)(B B1:Nat)(E:AV)(F:Int->Int->T)(O:Nat->Prop)(kS cM cS_ cF cW fid:Nat)(caps:List AV)(Pf:Bool->AH->Prop)(q0:Bool)(M:Ms)(nv:NV)(ks:List T)(n:Nat)(d:Int)(b12 kk:Nat)(h0 h:AH)(M':Ms)(gN gF:Nat)(sn:List ((Int×Int)×Int))(dn:List Int)(p:Nat):Prop where
 st:St A B B1 E M' gN gF h
 g:Wg M'
 le:Le M M'
 sv:Sv M M'
 hx:HX B B1 (KO kS O) h0 h
 cl:Cl A (.fn fid [] caps) cM cS_ cF cW kS sn h
 sn_:Sn F (q0||ue nv.D 0 (ks.take p) d) M' sn
 pf:Pf (q0||ue nv.D 0 (ks.take p) d) h
 g9:h.get h0.z=some (.box [.I (n:Int),.I d])
 g12:h.get b12=some (.box (n_ nv))
 row:h.get kk=some (.row 0 1 false (bJ ((dn++List.replicate (nv.K.length-p) 0).map AG.bh)) 0)
 lk:Lk M'.ts dn ((uL F nv.D 0 ks d).take p)
 pl:p<=nv.K.length
 nx:kk<h.z
 dl:dn.length=p
def I1140 (A:Ma)(B B1:Nat)(E:AV)(F:Int->Int->T)(O:Nat->Prop)(o l e v i f:Nat)(c:List AV)(w:Bool->AH->Prop)(t:Bool)(M:Ms)(a:NV)(u:List T)(n:Nat)(d:Int)(b k:Nat)(g:AH)(j:Nat)(m:AF)(h:AH):Prop:=∃tm p q gN gF r s,
 p+j=a.K.length/\m=F_ 140 tm/\nth tm 1=.I d/\nth tm 2=.P l/\nth tm 3=.P e/\nth tm 5=.P i/\nth tm 9=.P g.z/\nth tm 12=.P b/\nth tm 14=.row k 0 1 0 a.K.length/\
 nth tm 63=.eI a.K/\nth tm 64=.I (a.K.length:Int)/\nth tm 65=.I (p:Int)/\J1140 A B B1 E F O o l e v i f c w t M a u n d b k g h q gN gF r s p
def c1140 [RunsM K][km:KM K]{i W C f Q S:Nat}{O:Nat->Prop}{u:List AV}{F:Int->Int->T}{Pf:Bool->AH->Prop}{M0:Ms}(fc:Fc K A B B1 E O i W u F Pf M0):
  ∀(n:Nat) (M:Ms) (gN gF:Nat) (h:AH) (sn:List ((Int×Int)×Int)) (t:T) (d:Int) (L:Bool),Le M0 M->St A B B1 E M gN gF h->Wg M->Ct M->At M.ts (n:Int) t->0<=d->d+n<=200000->
   Cl A (.fn W [] u) C f Q S i sn h->Ad B1 C f Q S i O h.z->Sn F L M sn->Pf L h->
   ∃o h',cS K (.fn 140 [] [.P C,.P f,.P Q,.P S]) [.I (n:Int),.I d] .no h=some (o,.no,h')/\Wk A B B1 E F O i Pf (L||occ t d) M (rpT F t d) h o h':=by
 intro n;induction n using Nat.strongRecOn with
 |_ n ih=>
 intro M gN gF h sn t d L b3 s g c aj d0 d1 cl U V pf;have bk:=λhR=>(lW) [.P C,.P f,.P Q,.P S] [.I (n:Int),.I d] _ .no h h _ _ _ (λo rc h'=>rc=.no/\Wk A B B1 E F O i Pf (L||occ t d) M (rpT F t d) h o h') aeK (ae (aL _ _ _) (ae (aL _ _ _) (aH _))) hR;suffices hR:R_ K [.code WV] (XQ (cS K) Qz (mD λo rc h'=>rc=.no/\Wk A B B1 E F O i Pf (L||occ t d) M (rpT F t d) h o h')) .normal ⟨cU ([.I (n:Int),.I d]++[.P C,.P f,.P Q,.P S]),⟨[],.no,none,140⟩⟩ h by
  obtain⟨o,rc,h',e,rfl,q⟩:=bk hR;exact⟨o,h',e,q⟩
 clear bk;have gM:=cl.gM;have gS:=cl.gS;have er:=cl.gF;have gW:=cl.gW;have gA:=s.gA;obtain⟨b,m,hn,rfl,aq,eh,tok,a7⟩:=g.at_node aj;have hn:M.ns[n]?=some b:=by simpa using hn
 have a7:M.fr[n]?=some (fp (ndT b m)):=by simpa using a7
 have b5:=(E_.1 hn).1;have c8:n<M.fr.length:=by rw[g.lenF];exact b5
 have hi:=jf (kk:=A.kF) (g:=gF) (sz:=1) c8 .i64;have hl:=rO (a:=n) (x:=AG.bh (fp (ndT b m))) s.gF (by rw[Bx,List.getElem?_map,a7];rfl);unfold kj at gA;unfold AG.bh at hl;have fin:∀(tm:Tm) (Hf:AH) (M':Ms) (au a9:Nat) (av:List ((Int×Int)×Int)) (r:Int),nth tm 3=.P f->nth tm 9=.P h.z->nth tm 13=.I r->St A B B1 E M' au a9 Hf->Wg M'->Le M M'->Sv M M'->HX B B1 (KO i O) h Hf->
   Hf.get f=some (.box [.map i])->Hf.get i=some (.map (mpg Ql AG.bh av))->Hf.get h.z=some (.box [.I (n:Int),.I d])->Sn F (L||occ (ndT b m) d) M' av->At M'.ts r (rpT F (ndT b m) d)->Pf (L||occ (ndT b m) d) Hf->
   R_ K [.code DP] (XQ (cS K) Qz (mD λo rc h'=>rc=.no/\Wk A B B1 E F O i Pf (L||occ (ndT b m) d) M (rpT F (ndT b m) d) h o h')) .normal (F_ 140 tm) Hf:=by
  intro tm Hf M' au a9 av r t3 t9 d8 st g' le sv hx e3 ek e9 sk ar d6;have d4:iR Hf 3 (.map i) (.agg [.I (n:Int),.I d]) (.I r)=_:=lS (kf:=Ql) (t:=3) AG.bh uy ek ((n:Int),d) r;unfold DP;simp only[*,go_sem,Lw];exact jl (vs:=[.I r]) (.inr rfl) k_ ⟨.I r,_,cv_ (aL _ _ _),rfl,hx.set _ (.inr (.inl rfl)),.inl ⟨_,rfl,M',au,a9,_,st.set _ U.lo.2.2.2.2,g',le,⟨sv,_,rfl,ar⟩,aF _ _ _,sk.add (le.at aj) ar (λw=>by rw[w,Bool.or_true]),fc.st d6 _ (e_ _)⟩⟩
 unfold WV;simp only[*,go_sem,GD];refine aU (λhf=>?_) (λhf=>?_)
 ·simp only[go_sem];refine jl (vs:=[.I (n:Int)]) (.inr rfl) k_ ⟨.I (n:Int),h,cv_ (aL _ _ _),rfl,HX.refl h,.inl ⟨_,rfl,M,gN,gF,sn,s,g,Le.refl M,⟨Sv.refl c,_,rfl,?_⟩,cl.mS,?_,?_⟩⟩
  ·rw[Cc _ _ hf];exact aj
  ·exact V.or _
  rw[yK _ _ hf,Bool.or_false];exact pf
 simp only[go_sem,GF];obtain⟨H1,co,k1,e1,g9⟩:=ns h (.box [.I 0,.I 0]) (.box [.I (n:Int),.I d]);rw[<-co];have s1:=s.hk k1;have bq:=U.up k1.z;have I:=cl.hm U (HK.m (B:=B) (B1:=B1) k1);have b8:=fc.hm pf (HK.m k1);have x1:HX B B1 (KO i O) h H1:=(HK.m k1).x;clear co;have c9:=I.gM;have dv:=I.gS;have em:=I.gF;have ey:=I.gW;have hk:∀z,iq H1 3 z true (.map i) (.agg [.I (n:Int),.I d])=_:=λz=>ki (kf:=Ql) (t:=3) AG.bh uy I.mS ((n:Int),d) z true;simp only[*,go_sem,Lr];cases d2:lkg sn ((n:Int),d) with
 |some o=>
  obtain⟨t',a1,a2,a3⟩:=V _ (qH d2);have:=aj.det a1;subst this;have ee:(L||occ (ndT b m) d)=L:=by
   cases ho:occ (ndT b m) d with
   |false=>exact Bool.or_false _
   |true=>rw[a3 ho];rfl
  rw[ee];simp only[go_sem,AG.bh];exact jl (vs:=[.I o]) (.inr rfl) k_ ⟨.I o,H1,cv_ (aL _ _ _),rfl,x1,.inl ⟨_,rfl,M,gN,gF,sn,s1,g,Le.refl M,⟨Sv.refl c,_,rfl,a2⟩,I.mS,V,b8⟩⟩
 |none=>
  obtain⟨o,H2,e,D,q⟩:=Bz s1 g c;simp only[*,go_sem,Ls];rcases q with⟨v,rfl,rfl,M2,ai,ce,s2,g2,Z,rfl,aw⟩|rfl
  ·have x2:=x1.trans D.x;have ck:=I.hm bq D;have ch:=bq.up D.z;have ea:=fc.hm b8 D;have b1:=s.b1;have dp:H2.get h.z=some (.box [.I (n:Int),.I d]):=(D.kw _ o_ (.inr o_)).trans g9;have c2:=aw.ct c;have dc:=ck.gM;have b0:=s2.gA;have cc:=s2.cell hn;have l5:=cc.l5;have bl:=s2.addr b5;unfold kj at b0;unfold bU at l5;simp only[*,go_sem,Lt];obtain⟨l,bm,k3,fe,ah⟩:=ns H2 (.box zT) (.box (n_ b));rw[<-bm];have e7:=D.z;have s3:=s2.hk k3;have ci:=ch.up k3.z;have ab:=ck.hm ch (HK.m (B:=B) (B1:=B1) k3);have bi:=fc.hm ea (HK.m k3);have x3:=x2.trans (HK.m k3).x;have cu:=k3.up dp;clear bm;have ff:=ab.gM;have ej:=ab.gF;simp only[*,go_sem,Lu,Lv];refine aU (λH=>?_) (λH=>?_)
   ·have i0:=(tok:TOK (ndT b m));unfold ndT TOK at i0;have j0:=i0.1.i0;have j1:=i0.1.i1;have eg:0<=b.X-d:=by
     unfold ndT fp at hf;have ed:m=[]:=by
      have:=i0.1.K;rw[H]at this;exact List.length_eq_zero_iff.1 (by simpa [cN] using this)
     rw[ed,P_ H]at hf;unfold gj at hf;omega
    have hw:=aW (b.X-d) o_ o_;have bf:=fc.run _ ai ce l (b.X-d) d L (b3.trans Z) s3 g2 c2 bi eg o_ d0 o_;obtain⟨o,H4,e4,ao,q⟩:=bf;simp only[*,go_sem];have x4:=x3.trans (ao.le (Y:=KO i O) λ_ w=>.inr w);rcases q with⟨v,rfl,⟨M4,ef,df,s4,g4,cs,c4,r,rfl,a4⟩,ca⟩|rfl
    ·have cq:=ab.ho ci ao;have eo:occ (ndT b m) d=decide (b.X-d=0):=by
      unfold ndT occ;rw[P_ H];exact decide_eq_decide.2 o_
     rw[<-eo]at ca;simp only[go_sem];refine fin _ H4 M4 ef df sn r k_ k_ k_ s4 g4 (Z.trans cs) (aw.trans c4) x4 cq.gS cq.mS ((ao.kw _ o_ (.inr o_) (λw=>U.nx (e_ _) (.inr w))).trans cu) (((V.up Z).up cs).or _) ?_ ca;unfold ndT rpT;rw[P_ H,N_ o_];exact a4
    simp only[*,go_sem];exact jE ⟨rfl,x4,.inr rfl⟩
   have e5:b.K.length<=3:=by
    have:=(g.nok (m_ hn)).nd.K;unfold cN at this;split at this
    ·omega
    split at this
    ·omega
    split at this<;>omega
   have bg:=El b.K.length o_ l;obtain⟨H4,ak,k4,_⟩:=nw l (.row 0 1 false (bJ ((List.replicate b.K.length (0:Int)).map AG.bh)) 0);rw[<-ak]at bg;have am:=k4.up ah;have cg:H4.get l.z=some (.row 0 1 false (bJ ((List.replicate b.K.length (0:Int)).map AG.bh)) 0):=by rw[ak,aD]
   have eu:H4.z=l.z+1:=by rw[ak,aB]
   clear ak;simp only[go_sem,ah,bg,am];refine bo (I1140 A B B1 E F O i C f Q S W u Pf L M b m n d H2.z l.z h) b.K.length o_ ⟨_,0,_,ai,ce,sn,[],o_,rfl,k_,k_,k_,k_,k_,k_,k_,k_,k_,y_,
    ⟨s3.hk k4,g2,Z,aw,x3.trans (HK.m k4).x,ab.hm ci (HK.m (B:=B) (B1:=B1) k4),(V.up Z).or _,by rw[List.take_zero];unfold ue;rw[Bool.or_false];exact fc.hm bi (HK.m k4),k4.up cu,am,by simpa using cg,by simp[Lk],o_,o_,rfl⟩⟩ ?_
   rintro j fr H5 ⟨tm,p,M5,b9,b4,cf,dn,hp,rfl,t1,t2,t3,t5,t9,ag,ap,br,a5,a0,J⟩;unfold Nj;simp only[go_sem,a0,a5,Lx];refine aU (λN=>?_) (λel=>?_)
   ·have N:p<b.K.length:=o_;have P:=a_ N;obtain⟨x,ex,ax⟩:=aq.get P;obtain⟨cn,ec,eq⟩:=ax.nat;have cz:cn<n:=by have:=eh _ (m_ P);omega
    rw[ec]at P ax;have fd:=lh b.D p;have d7:=aW (d+bK b.D p) o_ o_;have d9:=aP p o_;have cb:=λk j h=>abO k j h;have az:=U.up J.hx.z;obtain⟨o6,H6,e6,x6,q6⟩:=ih cn cz M5 b9 b4 H5 cf x (d+bK b.D p) _ (b3.trans J.le) J.st J.g (J.sv.ct c) (J.le.at ax) o_ o_ J.cl az J.sn_ J.pf;have be:=J.cl.gW;have Y:=J.g12;have b2:=J.nx;have dl:=J.dl;have lo:=U.lo;have et:=az.hi;have bd:=U.hi;have en:=J.pl;have bv:=jf (kk:=l.z) (g:=0) (sz:=1) N .i64;simp only[go_sem,Ly,t1,t5,ag,ap,br,a0,P,be,Y,cb,d7];rw[Bool.or_assoc,<-OI _ _ _ _ _ ex]at q6;rcases q6 with⟨v,rfl,M6,dm,dg,c5,dx,g6,cx,⟨di,r,rfl,a6⟩,d5,dy,db⟩|rfl
    ·have X:=(x6.kw _ o_ (.inr o_) (U.nx o_)).trans J.row;have aa:=rM (x:=AG.bh r) (a:=p) X (ng _) (by simp[dl];omega) rfl rfl;rw[<-List.map_set,Kh dn _ p r dl N]at aa;have aa:cY (.ptr l.z 0 (p*1)) H6 1 (.I r)=_:=aa;have ay:AV.beq (.fn (140) [] [.P C,.P f,.P Q,.P S]) (.fn (140) [] [.P C,.P f,.P Q,.P S])=true:=by simp[AV.beq,AV.beqs]
     simp only[go_sem,e6,bv,aa,t5,be,ay,a0,d9];have ew:Ad B1 C f Q S i O H6.z:=az.up x6.z;have s7:=dx.set (.row 0 1 false (bJ ((dn++[r]++List.replicate (b.K.length-(p+1)) 0).map AG.bh)) 0) (k:=l.z) o_;have x7:HX B B1 (KO i O) h (H6.set l.z (.row 0 1 false (bJ ((dn++[r]++List.replicate (b.K.length-(p+1)) 0).map AG.bh)) 0)):=(J.hx.trans x6).set _ (.inl o_);refine⟨j-1,o_,_,p+1,M6,dm,dg,c5,dn++[r],o_,rfl,q_ t1,q_ t2,q_ t3,q_ t5,q_ t9,q_ ag,q_ ap,q_ br,q_ a5,k_,
      ⟨s7,g6,J.le.trans cx,J.sv.trans di,x7,?_,dy,?_,?_,?_,aF _ _ _,?_,o_,by rw[aE];have:=x6.z;omega,by simp[dl]⟩⟩
     ·exact cl.hx U x7 (by rw[aA o_];exact d5)
     ·exact fc.st db _ (by have:=U.hi;omega)
     ·rw[aA o_];exact(x6.kw _ o_ (.inr o_) (U.nx o_)).trans J.g9
     ·rw[aA o_];exact(x6.kw _ o_ (.inr o_) (U.nx o_)).trans J.g12
     rw[Oq _ _ _ _ _ ex];exact(cx.lk J.lk).snoc a6
    have ay:AV.beq (.fn (140) [] [.P C,.P f,.P Q,.P S]) (.fn (140) [] [.P C,.P f,.P Q,.P S])=true:=by simp[AV.beq,AV.beqs]
    simp only[*,go_sem];exact jE ⟨rfl,J.hx.trans x6,.inr rfl⟩
   have de:p=b.K.length:=by have:=J.pl;omega
   subst de;have Y:=J.g12;have b2:=J.nx;have dl:=J.dl;have lo:=U.lo;have bd:=U.hi;have al:=J.row;have bb:=J.lk;rw[Nat.sub_self,List.replicate_zero,A_]at al;rw[aq.len,l_ (by rw[Af];exact e_ _)]at bb;have es:=J.hx.z;have e2:H2.z<l.z:=o_;obtain⟨H6,y⟩:∃H6:AH,H6=H5.set H2.z (.box [.I b.D,.I b.X,.str b.N,.eL b.L,.row l.z 0 1 0 b.K.length]):=⟨_,rfl⟩;have g6:H6.get H2.z=some (.box [.I b.D,.I b.X,.str b.N,.eL b.L,.row l.z 0 1 0 b.K.length]):=by rw[y,aF]
   have X:H6.get l.z=some (.row 0 1 false (bJ (dn.map AG.bh)) 0):=by rw[y,aA o_];exact al
   obtain⟨H7,d3,n7,k7⟩:=AJ b.D b.X b.N b.L dn (by rw[dl]) X (by rw[y,aE];exact b2);have o6:∀k,k≠H2.z->k≠l.z->H7.get k=H5.get k:=λk q1 q2=>by rw[k7 k q2,y,aA q1]
   have dk:H7.z=H5.z:=by rw[n7,y,aE]
   have s7:St A B B1 E M5 b9 b4 H7:=J.st.up o_ λk _ q=>o6 k o_ o_;have bw:HX B B1 (KO i O) h H7:=⟨o_,λk q1 q2 q3=>by rw[o6 k o_ o_];exact J.hx.kw k q1 q2 q3⟩;have eo:(L||ue b.D 0 (m.take b.K.length) d)=(L||occ (ndT b m) d):=by
    rw[aq.len,K_];unfold ndT occ;rw[N_ H]
   have cv:=fc.up _ _ _ J.pf (Nat.le_of_eq dk.symm) λk a _ _=>o6 k (by have:=bd.2.2.2.2;omega) (by have:=bd.2.2.2.2;omega);have an:=λ{M8:Ms} (le:Le M5 M8)=>J.sn_.up le;rw[eo]at cv;simp only[eo]at an;have cr:TOK (ndT ⟨b.D,b.X,b.N,b.L,dn⟩ (uL F b.D 0 m d)):=by
    have:=(tok:TOK (ndT b m));unfold ndT TOK at this ⊢;refine⟨by rw[Af];exact this.1,dh.2 λt ht=>?_⟩;obtain⟨j,hj⟩:=J_ ht;obtain⟨c',_,ac⟩:=bb.get' hj;exact J.g.atok ac
   obtain⟨o8,H8,e8,af,q8⟩:=FK s7 J.g ⟨b.D,b.X,b.N,b.L,dn⟩ (uL F b.D 0 m d) bb cr;rw[<-dJ (f:=96) (c:=[]) (ae (bS A.a 0 0 H6) (ae d3 (aH _))) (ae (bS _ _ _ _) (ae (wi _ _) (aH _)))]at e8;have dz:=J.cl.gM;have c1:=(show H6.get C=H5.get C by rw[y,aA o_]).trans dz;simp only[go_sem,ap,ag,t2,Y];rw[<-y];clear y;simp only[go_sem,ag,c1,g6];rcases q8 with⟨v,rfl,M8,dt,dr,dd,g8,bx,eb,r,rfl,a8⟩|rfl
   ·simp only[go_sem,e8];have dj:=fc.hm cv af;have x8:=bw.trans af.x;have G:∀k,k<H7.z->B1<=k->k≠H2.z->k≠l.z->H8.get k=H5.get k:=λk q1 q2 q3 q4=>(af.kw k q1 (.inr (.inl q2))).trans (o6 k q3 q4);refine fin _ H8 M8 dt dr cf r (q_ t3) (q_ t9) k_ dd g8 (J.le.trans bx) (J.sv.trans (eb.v (J.sv.ct c))) x8 ?_ ?_ ?_ (an bx) ?_ dj
    ·rw[G _ o_ o_ o_ o_];exact J.cl.gS
    ·rw[G _ o_ o_ o_ o_];exact J.cl.mS
    ·rw[G _ o_ o_ o_ o_];exact J.g9
    unfold ndT rpT;rw[N_ H];exact a8
   simp only[go_sem,e8];exact jE ⟨rfl,bw.trans af.x,.inr rfl⟩
  simp only[go_sem];exact jE ⟨rfl,x1.trans D.x,.inr rfl⟩
end
mutual
def yC:∀(t:T) (d:Int),TOK t->cZ 0 t d=t
 |.mk k i nm ls b,d,h=>by
  unfold TOK at h;unfold cZ;by_cases hk:k=0
  ·rw[P_ hk];split
   ·rfl
   have a:b=[]:=by
    have:=h.1.K;rw[hk]at this;exact List.length_eq_zero_iff.1 (by simpa [cN] using this)
   rw[hk,h.1.N o_,h.1.lev.2.2 o_ o_,a,Int.add_zero]
  rw[N_ hk,wP k b 0 d h.2]
def wP (k:Int):∀(l:List T) (j:Nat) (d:Int),gO l->fB 0 k j l d=l
 |[],_,_,_=>rfl
 |t::l,j,d,h=>by
  unfold gO at h;unfold fB;rw[yC t _ h.1,wP k l (j+1) d h.2]
end
section
variable {K:aN}{A:Ma}{B B1:Nat}{E:AV}{M:Ms}{gN gF:Nat}{h:AH}
def EN [RunsM K][b:KM K](s:St A B B1 E M gN gF h)(g:Wg M)(i:Int):Mc K A B B1 E (102) [] [.P A.a,.I i] M h λa v=>0<=i/\i<=65535/\Px (.mk 0 i (bs []) [] []) M a v:=by
 exact c1102 s g i
def PX (A:Ma)(B B1:Nat)(E:AV)(O:Nat->Prop)(M:Ms)(h:AH)(t:T)(P:AH->Prop)(o:ep)(a:AH):Prop:=HX B B1 O h a/\((∃v,o=.ret v/\(Gq A B B1 E M a λb=>Pv t M b v)/\P a)\/o=.pan pv)
def Vr [RunsM K][km:KM K]{O:Nat->Prop}{f:Nat}{b:List AV}{F:Int->Int->T}{y:Bool->AH->Prop}{Z:Ms}{q0:Bool}(V:Fc K A B B1 E O (h.z+2) f b F y Z)(l:∀k,O k->k<h.z)(N:Le Z M)(m:AV.norms b=b)
  (s:St A B B1 E M gN gF h) (g:Wg M) (c:Ct M) {x:Int} {t:T} (hx:At M.ts x t) {d:Int} (d0:0<=d) (d1:d<=100000) (pf:y q0 h) :
  ∃o i,cS K (.fn (99) [] []) [.P A.a,.I x,.I d,.fn f [] b] .no h=some (o,.no,i)/\PX A B B1 E O M h (rpT F t d) (y (q0||occ t d)) o i:=by
 have b1:=s.b1;have n:=λG=>(lW) [] [.P A.a,.I x,.I d,.fn f [] b] _ .no h h _ _ _ (λo D i=>D=.no/\PX A B B1 E O M h (rpT F t d) (y (q0||occ t d)) o i) afb (ae (bS _ _ _ _) (ae (aL _ _ _) (ae (aL _ _ _) (ae (v':=.fn f [] b) (h1:=h) (by rw[jd,m];simp[AV.norms]) (aH _))))) G;suffices G:R_ K [.code WW] (XQ (cS K) We (mD λo D i=>D=.no/\PX A B B1 E O M h (rpT F t d) (y (q0||occ t d)) o i)) .normal ⟨cU ([.P A.a,.I x,.I d,.fn f [] b]++[]),⟨[],.no,none,99⟩⟩ h by
  obtain⟨o,_,i,e,rfl,q⟩:=n G;exact⟨o,i,e,q⟩
 clear n;unfold WW;simp only[go_sem,LH,LI,LJ];simp only[aB,aE,Nat.add_assoc,Nat.reduceAdd];have⟨H,C⟩:∃H:AH,H=(((((((h.new (.box [.P A.a])).new (.box [.fn f [] b])).new (.map [])).new (.box [.nilm])).set (h.z+3) (.box [.map (h.z+2)])).new (.box [.nilf])).set (h.z+4) (.box [.fn (140) [] [.P h.z,.P (h.z+3),.P (h.z+1),.P (h.z+4)]])):=⟨_,rfl⟩;rw[<-C];have n1:(h.new (.box [.P A.a])).z=h.z+1:=aB _ _;have n2:((h.new (.box [.P A.a])).new (.box [.fn f [] b])).z=h.z+2:=by rw[aB,n1]
 have P:(((h.new (.box [.P A.a])).new (.box [.fn f [] b])).new (.map [])).z=h.z+3:=by rw[aB,n2]
 have L:((((h.new (.box [.P A.a])).new (.box [.fn f [] b])).new (.map [])).new (.box [.nilm])).z=h.z+4:=by rw[aB,P]
 have nH:H.z=h.z+5:=by rw[C,aE,aB,aE,L]
 have e:∀k,H.get k=if k=h.z+4 then some (.box [.fn (140) [] [.P h.z,.P (h.z+3),.P (h.z+1),.P (h.z+4)]]) else if k=h.z+3 then some (.box [.map (h.z+2)]) else if k=h.z+2 then some (.map []) else if k=h.z+1 then some (.box [.fn f [] b]) else if k=h.z then some (.box [.P A.a]) else h.get k:=by
  intro k;rw[C,get_set,get_new,aE,L,get_set,get_new,P,get_new,n2,get_new,n1,get_new];by_cases p:k=h.z+4
  ·rw[P_ p,P_ p]
  rw[N_ p,N_ p,N_ p];by_cases j:k=h.z+3
  ·rw[P_ j,P_ j]
  rw[N_ j,N_ j,N_ j]
 clear C n1 n2 P L;have J:HK h H:=⟨o_,λk hk=>by rw[e,N_ o_,N_ o_,N_ o_,N_ o_,N_ o_]⟩;have Y:Cl A (.fn f [] b) h.z (h.z+3) (h.z+1) (h.z+4) (h.z+2) [] H:=by
  refine⟨?_,?_,?_,?_,?_⟩
  ·rw[e,N_ o_,N_ o_,N_ o_,N_ o_,P_ rfl]
  ·rw[e,N_ o_,P_ rfl]
  ·rw[e,N_ o_,N_ o_,N_ o_,P_ rfl]
  ·rw[e,P_ rfl]
  rw[e,N_ o_,N_ o_,P_ rfl];rfl
 obtain⟨xn,rfl,ex⟩:=hx.nat;have aa:xn<M.ns.length:=by rw[<-g.len];exact(E_.1 ex).1
 have S:=g.most;have⟨_,i,_,W,q⟩:=c1140 V xn M gN gF H [] t d q0 N (s.hk J) g c hx d0 o_ Y ⟨o_,o_,o_,⟨λw=>by have:=l _ w;omega,λw=>by have:=l _ w;omega,λw=>by have:=l _ w;omega,λw=>by have:=l _ w;omega,λw=>by have:=l _ w;omega⟩,λk w=>by have:=l _ w;omega⟩ (λe he=>by cases he) (V.hm pf (HK.m J));have u:HX B B1 O h i:=⟨by have:=W.z;omega,λk q1 q2 j=>(W.kw k o_ q2 (λw=>w.elim (λz=>by omega) j)).trans (J.kw k q1)⟩;have gW:=Y.gW;simp only[*,go_sem,LK];rcases q with⟨v,rfl,M',Q,U,sn,st,g',le,⟨sv,r,rfl,a⟩,_,_,I⟩|rfl
 ·simp only[go_sem];exact jl (vs:=[.I r]) (.inr rfl) k_ ⟨.I r,i,cv_ (aL _ _ _),rfl,u,.inl ⟨_,rfl,⟨M',Q,U,st,g',le,sv,r,rfl,a⟩,I⟩⟩
 simp only[go_sem];exact jE ⟨rfl,u,.inr rfl⟩
def abR [RunsM K][G:KM K]{i:Nat}{f:List AV}{F:Int->Int->T}{m:Bool->AH->Prop}{p:Ms}{q0:Bool}(r:Fc K A B B1 E (λ_=>False) (h.z+2) i f F m p)(l:Le p M)(j:AV.norms f=f)
  (s:St A B B1 E M gN gF h) (g:Wg M) (c:Ct M) {x:Int} {t:T} (hx:At M.ts x t) {d:Int} (y:0<=d) (D:d<=100000) (C:m q0 h) :
  Mc K A B B1 E (99) [] [.P A.a,.I x,.I d,.fn i [] f] M h λu v=>Pv (rpT F t d) M u v:=by
 have⟨o,z,e,n,q⟩:=Vr r (λ_ w=>w.elim) l j s g c hx y D C;exact⟨o,z,e,⟨n.z,λk a b=>n.kw k a b id⟩,q.imp (λ⟨v,e,a,_⟩=>⟨v,e,a⟩) id⟩
structure Pl (A:Ma)(b:Int)(k:Nat)(h:AH):Prop where
 gM:h.get k=some (.box [.P A.a])
 gB:h.get (k+1)=some (.box [.I b])
 lt:k+2<=h.z
theorem fcl [RunsM K][I:KM K]{k kS:Nat}(b:Int)(L : -100000<=b/\b<=300000)(hk:B1<=k)(J:k+2<=kS)(F:Ms):Fc K A B B1 E (λ_=>False) kS (141) [.P k,.P (k+1)] (Fl b) (λ_=>Pl A b k) F where
 up _ h f p n x:=⟨(x _ o_ hk (by have:=p.lt;omega)).trans p.gM,(x _ o_ o_ (by have:=p.lt;omega)).trans p.gB,C_ p.lt n⟩
 run M gN gF h i d q _ s g c p i0 i1 d0 d1:=by
  suffices w:Cm K B B1 (141) [.P k,.P (k+1)] [.I i,.I d] h λv f=>Gq A B B1 E M f λl=>Pv (Fl b i d) M l v by
   have⟨o,f,e,x,y⟩:=w;exact⟨o,f,e,x.x,y.imp (λ⟨v,e,a⟩=>⟨v,e,a,⟨(x.kw _ (by have:=p.lt;omega) (.inr (.inl hk))).trans p.gM,(x.kw _ (by have:=p.lt;omega) (.inr o_)).trans p.gB,C_ p.lt x.z⟩⟩) id⟩
  refine iW aeJ ?_;have G:=p.gM;have H:=p.gB;have t:=aW (i+d) o_ o_;have u:=aW (i+d+b) o_ o_;have⟨_,_,_,j,q⟩:=EN s g (i+d+b);simp only[*,go_sem];rcases q with⟨v,rfl,l,m,z,st,C,le,_,_,D,r,rfl,a⟩|rfl
  ·simp only[go_sem];exact iX (.inr rfl) k_ j ⟨l,m,z,st,C,le,D.v c,r,rfl,a⟩
  simp only[go_sem];exact cP j
def WQ [RunsM K][G:KM K](s:St A B B1 E M gN gF h)(g:Wg M)(c:Ct M){x:Int}{t:T}(hx:At M.ts x t){b:Int}(y : -100000<=b/\b<=300000):
  Mc K A B B1 E (101) [] [.P A.a,.I x,.I b] M h λj v=>Pv (cZ b t 0) M j v:=by
 have D:=s.b1;refine iW ae9 ?_;simp only[go_sem,aB];have⟨H,d,f,_⟩:=n2 h (.box [.P A.a]) (.box [.I b]);have p:Pl A b h.z H:=by
  have n1:=aB h (.box [.P A.a]);refine⟨?_,?_,?_⟩
  ·rw[d,aM o_,aD]
  ·rw[d,<-n1,aD]
  rw[d,aB,n1];omega
 rw[<-d];have F:H.z=h.z+2:=by rw[d,aB,aB]
 clear d;have w:=p.gM;have C:=p.gB;simp only[go_sem,C];refine aU (λm=>?_) (λm=>?_)
 ·simp only[go_sem];refine iX (.inr rfl) k_ (HK.m f) ⟨M,gN,gF,s.hk f,g,Le.refl M,Sv.refl c,x,rfl,?_⟩;rw[m,yC t 0 (g.atok hx)];exact hx
 have n:=fcl (A:=A) (B:=B) (B1:=B1) (E:=E) (k:=h.z) (kS:=H.z+2) b y o_ o_ M;have⟨_,_,e,i,q⟩:=abR (q0:=false) (d:=0) n (Le.refl M) (by simp[AV.norms,AV.norm]) (s.hk f) g c hx o_ o_ p;simp only[go_sem,w];rcases q with⟨v,rfl,j,k,l,st,u,le,z,r,rfl,a⟩|rfl
 ·simp only[go_sem,e];refine iX (.inr rfl) k_ ((HK.m f).trans i) ⟨j,k,l,st,u,le,z,r,rfl,?_⟩;rw[GJ]at a;exact a
 simp only[go_sem,e];exact cP ((HK.m f).trans i)
structure Pp (A:Ma)(ids:List Int)(k:Nat)(h:AH):Prop where
 gM:h.get k=some (.box [.P A.a])
 gB:h.get (k+1)=some (.box [.eI ids])
 lt:k+2<=h.z
theorem fcp [RunsM K][X:KM K]{k kS:Nat}(b:List Int)(O:List T)(Q:Ms)(lk:Lk Q.ts b O)(V:b.length<=100000)(hk:B1<=k)(W:k+2<=kS):Fc K A B B1 E (λ_=>False) kS (100) [.P (k+1),.P k] (Fp O) (λ_=>Pp A b k) Q where
 up _ h u p n x:=⟨(x _ o_ hk (by have:=p.lt;omega)).trans p.gM,(x _ o_ o_ (by have:=p.lt;omega)).trans p.gB,C_ p.lt n⟩
 run M gN gF h i d q hle s g c p i0 i1 d0 d1:=by
  suffices w:Cm K B B1 (100) [.P (k+1),.P k] [.I i,.I d] h λv u=>Gq A B B1 E M u λC=>Pv (Fp O i d) M C v by
   have⟨o,u,e,x,y⟩:=w;exact⟨o,u,e,x.x,y.imp (λ⟨v,e,a⟩=>⟨v,e,a,⟨(x.kw _ (by have:=p.lt;omega) (.inr (.inl hk))).trans p.gM,(x.kw _ (by have:=p.lt;omega) (.inr o_)).trans p.gB,C_ p.lt x.z⟩⟩) id⟩
  refine iW afa ?_;have G:=p.gM;have P:=p.gB;have I:=hle.lk lk;have z:=lk.len;obtain⟨n,rfl⟩:∃n:Nat,i=n:=⟨i.toNat,o_⟩;simp only[*,go_sem];refine aU (λD=>?_) (λF=>?_)
  ·have D:n<b.length:=o_;have j:=a_ D;have⟨_,U,L⟩:=I.get j;have⟨o,u,e,f,q⟩:=WQ s g c L (b:=d) o_;simp only[*,go_sem];rcases q with⟨v,rfl,C,l,m,st,N,le,R,r,rfl,a⟩|rfl
   ·simp only[go_sem];refine iX (.inr rfl) k_ f ⟨C,l,m,st,N,le,R,r,rfl,?_⟩;unfold Fp;rw[G_,U];exact a
   simp only[go_sem];exact cP f
  have F:b.length<=n:=o_;have H:=aW ((n:Int)-b.length) o_ o_;have J:=aW ((n:Int)-b.length+d) o_ o_;have⟨_,_,e,f,q⟩:=EN s g (n-b.length+d);simp only[go_sem,G,P,H,J];rcases q with⟨v,rfl,C,l,m,st,N,le,_,_,S,r,rfl,a⟩|rfl
  ·simp only[go_sem,e];refine iX (.inr rfl) k_ f ⟨C,l,m,st,N,le,S.v c,r,rfl,?_⟩;unfold Fp;rw[G_,S_ o_,<-z];exact a
  simp only[go_sem,e];exact cP f
def WT [RunsM K][C:KM K](s:St A B B1 E M gN gF h)(g:Wg M)(c:Ct M){x:Int}{t:T}(hx:At M.ts x t){ids:List Int}{vs:List T}(lk:Lk M.ts ids vs)(l:ids.length<=100000):
  Mc K A B B1 E (62) [] [.P A.a,.I x,.eI ids] M h λi v=>Pv (fM vs t 0) M i v:=by
 have F:=s.b1;refine iW afy ?_;simp only[go_sem,aB];have⟨H,b,f,_⟩:=n2 h (.box [.P A.a]) (.box [.eI ids]);have p:Pp A ids h.z H:=by
  have n1:=aB h (.box [.P A.a]);refine⟨?_,?_,?_⟩
  ·rw[b,aM o_,aD]
  ·rw[b,<-n1,aD]
  rw[b,aB,n1];omega
 rw[<-b];have y:H.z=h.z+2:=by rw[b,aB,aB]
 clear b;have m:=p.gM;have D:=p.gB;have u:=fcp (A:=A) (B:=B) (B1:=B1) (E:=E) (k:=h.z) (kS:=H.z+2) ids vs M lk l o_ o_;have⟨_,_,e,d,q⟩:=abR (q0:=false) (d:=0) u (Le.refl M) (by simp[AV.norms,AV.norm]) (s.hk f) g c hx o_ o_ p;simp only[go_sem,m];rcases q with⟨v,rfl,i,j,k,st,w,le,n,r,rfl,a⟩|rfl
 ·simp only[go_sem,e];refine iX (.inr rfl) k_ ((HK.m f).trans d) ⟨i,j,k,st,w,le,n,r,rfl,?_⟩;rw[GI]at a;exact a
 simp only[go_sem,e];exact cP ((HK.m f).trans d)
end
def TP {a:Nat}{H:AH}{V:AV}(k i:Int)(nm:ByteArray)(ls:List LL){d:List Int}(o:Own a 1 false H V (d.map AG.bh)):
  ∃b,cw (.agg [.I k,.I i,.str nm,.eL ls,V]) H=(bU ⟨k,i,nm,ls,d⟩,b)/\b.z=H.z/\∀j,j<a->b.get j=H.get j:=by
 have c:∀x b,dM V H=(x,b)->x.norm=.eI d->cw (.agg [.I k,.I i,.str nm,.eL ls,V]) H=(bU ⟨k,i,nm,ls,d⟩,b):=by
  intro x b e hx;show((AV.agg (cL _ H).1).norm,(cL _ H).2)=_;have h:cL [.I k,.I i,.str nm,.eL ls,V] H=([.I k,.I i,.str nm,.eL ls,x],b):=by
   show(_::_::_::_::(dM V H).1 :: [],(dM V H).2)=_;rw[e];rfl
  rw[h];simp[bU,AV.norm,AV.norms,bB iS,hx]
 rcases iT o (λ_=>rfl) with⟨rfl,e,f⟩|⟨p,g,n,f,h,m⟩
 ·rw[List.map_eq_nil_iff]at e;subst e;exact⟨H,c _ _ f rfl,rfl,λ_ _=>rfl⟩
 exact⟨_,c _ _ f (by simp only[AV.norm,bB ik]),aE _ _ _,λj l=>aA o_⟩
def jD {a b:Nat}{agg:Bool}{h:AH}{V:AV}{out:List AV}(o:Own a b agg h V out):AV.beq V V=true/\V.cells=[V]/\V.lies=true:=by
 obtain⟨_,⟨rfl,_⟩|⟨_,_,rfl,_⟩⟩:=o
 ·exact⟨rfl,rfl,rfl⟩
 exact⟨by simp[AV.beq],rfl,rfl⟩
def bz {h:AH}{k:Nat}{a b c d e:AV}(g:h.get k=some (.box [a,b,c,d,e]))(t:T):cY (.P k) h 5 (enc t)=some (h.set k (.box (aG t))):=by
 rw[aJ];simp only[go_sem,g];rfl
section
variable {K:aN}{A:Ma}{B B1:Nat}{E:AV}
def I1144 (A:Ma)(B B1:Nat)(E:AV)(M:Ms)(k i:Int)(nm:ByteArray)(ls:List LL)(b:List T)(a:AH)(j:Nat)(e:AF)(h:AH):Prop:=∃tm p c gN gF V d,p+j=b.length/\e=F_ 144 tm/\
 nth tm 0=.P A.a/\nth tm 5=.P (a.z+1)/\nth tm 18=.eT b/\nth tm 19=.I (b.length:Int)/\nth tm 20=.I (p:Int)/\
 Gs A B B1 E M a h c gN gF/\Sm M c/\h.get (a.z+1)=some (.box [.I k,.I i,.str nm,.eL ls,V])/\Own (a.z+2) 1 false h V (d.map AG.bh)/\Lk c.ts d (b.take p)/\a.z+2<=h.z/\d.length=p
def c1144 [RunsM K][km:KM K]:∀(n:Nat) (t:T)  (M:Ms) (gN gF:Nat) (h:AH),aO t<=n->TOK t->St A B B1 E M gN gF h->Wg M->
  Mc K A B B1 E (144) [] [.P A.a,enc t] M h λM' v=>Px t M M' v:=by
 intro n;induction n with
 |zero=>intro t M gN gF h hn;have:=bI t;omega
 |succ n ih=>
 intro t M gN gF h hn tok s g;have b1:=s.b1;refine iW aeI ?_;have⟨k,i,nm,ls,d⟩:=t;have Y:=tok;unfold TOK at tok;have av:d.length<=3:=by
  have:=tok.1.K;unfold cN at this;split at this
  ·omega
  split at this
  ·omega
  split at this<;>omega
 rw[pQ];simp only[go_sem];simp only[aB];have⟨H,C⟩:∃H:AH,H=((h.new (.box [.I k,.I i,.str nm,.eL ls,.eT d])).new (.box zT)).set (h.z+1) (.box [.I k,.I i,.str nm,.eL ls,.nl]):=⟨_,rfl⟩;rw[<-C];have nH:H.z=h.z+2:=by rw[C,aE,aB,aB]
 have kk:HK h H:=by rw[C];exact(((HK.new _ _).add _).set _ o_)
 have g3:H.get h.z=some (.box [.I k,.I i,.str nm,.eL ls,.eT d]):=by rw[C,aA o_,aM (by rw[aB];omega),aD]
 have O:H.get (h.z+1)=some (.box [.I k,.I i,.str nm,.eL ls,.nl]):=by rw[C,aF]
 clear C;simp only[go_sem,g3];refine bo (I1144 A B B1 E M k i nm ls d h) d.length o_ ⟨_,0,M,gN,gF,.nl,[],o_,rfl,k_,k_,k_,k_,y_,⟨s.hk kk,g,Le.refl M,HK.m kk⟩,Sm.refl M,O,cV _ _ _ _,trivial,o_,rfl⟩ ?_;clear g3 O kk nH;rintro j fr H1 ⟨tm,p,M1,U,I,V,dn,hp,rfl,t0,N,S,L,m,⟨st,g',le,y⟩,sm,O,o,lk,nx,dl⟩;simp only[go_sem,L,m];refine aU (λW=>?_) (λau=>?_)
 ·have W:p<d.length:=o_;have a:=a_ W;have b:=m_ a;have ha:=aR bH a .i64;have u:aO d[p]<=n:=by have:=cH b;simp only[aO]at hn;omega
  have tk:=dh.1 tok.2 _ b;have hw:=aP p o_;revert ha u tk a b;generalize d[p]=x;intro a b ha u tk;have G:=bz (h:=H1.new (.box zT)) (k:=H1.z) (aD _ _) x;have⟨H2,aa,F,_,g7⟩:=ns H1 (.box zT) (.box (aG x));rw[<-aa]at G;clear aa;have l:=F.up O;have⟨_,H3,e3,c,q3⟩:=ih x M1 U I H2 u tk (st.hk F) g';rw[aJ]at e3;unfold aG at g7;have o2:=bP o (h':=H2) F.z (λk w f=>F.kw k f);have z:=(c.kw _ o_ (.inr o_)).trans l;have ak:=bP o2 (h':=H3) c.z (λk w f=>c.kw k f (.inr o_));simp only[go_sem,t0,N,S,m,ha,G,l,g7];rcases q3 with⟨v,rfl,M3,X,Z,ah,g3,P,ap,r,rfl,a3⟩|rfl
  ·have⟨V4,H4,ea,o4,_,J,_⟩:=eY (AG.bh r) ak;have ea:cI H3 1 false [.I 0] 8 V (.clip [.I r])=some (V4,H4):=ea _ _ rfl (by decide);have ab:=(J (h.z+1) o_).trans z;have bq:=(jD o).1;have⟨_,an,af⟩:=jD o4;have⟨D,e⟩:∃D:AH,D=H4.set (h.z+1) (.box [.I k,.I i,.str nm,.eL ls,V4]):=⟨_,rfl⟩;simp only[go_sem,e3,N,l,z,bq,ea,ab,m,hw,an,af];rw[<-e];have ax:D.z=H4.z:=by rw[e,aE]
   have ay:=c.z;have e5:∀k,k<h.z+1->D.get k=H3.get k:=λk q=>by rw[e,aA o_];exact J k o_
   have aq:HM B B1 h D:=⟨o_,λk w f=>(e5 k o_).trans ((c.kw k o_ f).trans (F.up (y.kw k w f)))⟩;have ag:St A B B1 E M3 X Z D:=ah.up o_ λk w f=>e5 k o_;refine⟨j-1,o_,_,p+1,M3,X,Z,V4,dn++[r],o_,rfl,q_ t0,q_ N,q_ S,q_ L,k_,⟨ag,g3,le.trans P,aq⟩,sm.trans ap,by rw[e,aF],?_,?_,o_,by simp[dl]⟩
   ·rw[List.map_append];exact bP o4 o_ (λk w f=>by rw[e,aA o_])
   rw[Z_,a,Option.toList_some];exact(P.lk lk).snoc a3
  have bq:=(jD o).1;simp only[go_sem,e3,l,bq];exact cP (y.trans ((HK.m F).trans c))
 have ao:p=d.length:=o_;subst ao;rw[K_]at lk;have⟨H7,aj,_,k7⟩:=TP k i nm ls o;have s7:St A B B1 E M1 U I H7:=st.up o_ λj _ q=>k7 j o_;have⟨_,_,e8,Q,q8⟩:=FK s7 g' ⟨k,i,nm,ls,dn⟩ d lk Y;rw[<-dJ (f:=96) (c:=[]) (ae (bS A.a 0 0 H1) (ae aj (aH _))) (ae (bS _ _ _ _) (ae (wi _ _) (aH _)))]at e8;have R:HM B B1 h H7:=⟨o_,λj w f=>(k7 j o_).trans (y.kw j w f)⟩;simp only[go_sem,t0,N,O];rcases q8 with⟨v,rfl,M8,ad,ac,al,g8,ai,am,r,rfl,a8⟩|rfl
 ·simp only[go_sem,e8];exact iX (.inr rfl) k_ (R.trans Q) ⟨M8,ad,ac,al,g8,le.trans ai,sm.trans am,r,rfl,a8⟩
 simp only[go_sem,e8];exact cP (R.trans Q)
end
theorem Ii (l:List Int):fT (l.map AG.bh)=true:=by
 induction l with
 |nil=>rfl
 |cons a l b=>show and true (fT (l.map AG.bh))=true;rw[b];rfl
theorem zg (l:List Int):fZ 1 (l.map AG.bh)=true:=by
 induction l with
 |nil=>rfl
 |cons a l b=>show and (Nat.beq 1 1) (fZ 1 (l.map AG.bh))=true;rw[b];rfl
def acs {b:Nat}{h:AH}{V:AV}{out:List Int}(o:Own b 1 false h V (out.map AG.bh))(B:b<=h.z)(l:List Int)(m:out.length+l.length<100000000000):
  ∃p d,cI h 1 false [.I 0] 8 V (.eI l)=some (p,d)/\Own b 1 false d p ((out++l).map AG.bh)/\h.z<=d.z/\(∀k,k<b->d.get k=h.get k)/\(∀k g n,p=.row k g 1 0 n->k=h.z\/∃g n,V=.row k g 1 0 n)/\∀k,k<h.z->(∀g n,V≠.row k g 1 0 n)->d.get k=h.get k:=by
 have e0:cI h 1 false [.I 0] 8 V (.eI l)=List.casesOn (l.map AG.bh) (qP V h) λy A=>kO V h 1 false 8 (y::A):=by
  show aI (cond (fZ 1 (l.map AG.bh)) (some (l.map AG.bh)) none) (λz=>cond (and (fT z) (Nat.beq (len ([.I 0]:List AV)) 1)) _ _)=_;rw[zg];show cond (and (fT (l.map AG.bh)) true) _ _=_;rw[Ii];rfl
 have⟨x,i⟩:=o;cases l with
 |nil=>
  rw[A_];refine⟨V,h,?_,⟨x,i⟩,e_ _,λ_ _=>rfl,λk g n e=>.inr ⟨g,n,e⟩,λ_ _ _=>rfl⟩;rw[e0];rcases i with⟨rfl,_⟩|⟨k,g,rfl,_⟩<;>rfl
 |cons a l=>
  have c:∀n,n+(a::l).length<100000000000->need n ((a::l).map AG.bh).length 8=true:=by
   intro n m;show and (Nat.ble ((2*(n+((a::l).map AG.bh).length)+1000)*8) 140737488355328) (Nat.ble (n+((a::l).map AG.bh).length) 9223372036854775807)=true;simp only[L_]at *;rw[fK o_,fK o_];rfl
  rcases i with⟨rfl,r⟩|⟨k,g,rfl,u,w,v⟩
  ·rw[List.map_eq_nil_iff]at r;subst r;refine⟨.row h.z 0 1 0 ((a::l).map AG.bh).length,h.new (.row 0 1 false (bJ ((a::l).map AG.bh)) 0),?_,⟨mB _,.inr ⟨h.z,0,rfl,aD _ _,by rw[aB];omega,B⟩⟩,by rw[aB];omega,λk hk=>aM o_,λk g n e=>.inl (by cases e;rfl),λk hk _=>aM o_⟩;rw[e0];show cond (need 0 (len ((a::l).map AG.bh)) 8) (some (AV.row h.z 0 1 0 (len ((a::l).map AG.bh)),h.new (.row 0 1 false (bJ ((a::l).map AG.bh)) 0))) none=_;rw[bT,c 0 (by simp only[List.length_nil]at m;omega)];rfl
  have f:=lR (ng out);have t:AG.kR h k g 1=some (false,bJ (out.map AG.bh),0):=by
   unfold AG.kR;rw[u,aK];show aI (some (g,1,false,bJ (out.map AG.bh),0)) _=_;rw[aK];show cond (and (Nat.beq g g) (Nat.beq 1 1)) _ _=_;rw[fR,fR];rfl
  refine⟨.row k (g+1) 1 0 ((out.map AG.bh).length+((a::l).map AG.bh).length),h.set k (.row (g+1) 1 false (bJ ((out++a::l).map AG.bh)) 0),?_,⟨mB _,.inr ⟨k,g+1,by simp,aF _ _ _,by rw[aE];exact w,v⟩⟩,by rw[aE];exact e_ _,λj q=>aA o_,λE D C e=>.inr (by cases e;exact⟨g,_,rfl⟩),λj _ q=>aA (λe=>by subst e;exact q g _ rfl)⟩;rw[e0];show cond (Nat.beq 1 1) (aI (AG.kR h k g 1) _) none=_;rw[fR,t,cond_true,aK];show cond (and (nJ false false) (and (Nat.ble 0 ((0+(out.map AG.bh).length)*1)) (and (Nat.ble ((0+(out.map AG.bh).length)*1) (len (bJ (out.map AG.bh)))) (need (out.map AG.bh).length (len ((a::l).map AG.bh)) 8))))
   (some (AV.row k (g+1) 1 0 ((out.map AG.bh).length+len ((a::l).map AG.bh)),h.set k (.row (g+1) 1 false (app (tke ((out.map AG.bh).length*1) (drp (0*1) (bJ (out.map AG.bh)))) (bJ ((a::l).map AG.bh))) (0-0*1)))) none=_
  have s:nJ false false=true:=rfl;rw[s,bT,bT,c _ (by rw[L_];exact m),fK (show 0<=(0+(out.map AG.bh).length)*1 by omega),fK (show(0+(out.map AG.bh).length)*1<=(bJ (out.map AG.bh)).length by rw[f,z_];exact e_ _)];simp only[Nat.zero_mul,Nat.sub_self,lY,lu,iC,List.drop_zero];rw[<-f,K_,<-fW,<-List.map_append];rfl
def appI {a:Nat}{h:AH}{V:AV}{out:List Int}(o:Own a 1 false h V (out.map AG.bh))(f:a<=h.z)(l:List Int)(j:out.length+l.length<100000000000):
  ∃c b,cI h 1 false [.I 0] 8 V (.eI l)=some (c,b)/\Own a 1 false b c ((out++l).map AG.bh)/\h.z<=b.z/\∀k,k<a->b.get k=h.get k:=by
 have⟨c,b,g,e,d,i,_⟩:=acs o f l j;exact⟨c,b,g,e,d,i⟩
def Ch {a b:Nat}{agg:Bool}{h h':AH}{V:AV}{out:List AV}(o:Own a b agg h V out)(i:h.z<=h'.z)(hk:∀k g n,V=.row k g b 0 n->a<=k->k<h.z->h'.get k=h.get k):Own a b agg h' V out:=by
 obtain⟨f,⟨rfl,e⟩|⟨k,g,rfl,j,d,c⟩⟩:=o
 ·exact⟨f,.inl ⟨rfl,e⟩⟩
 exact⟨f,.inr ⟨k,g,rfl,(hk k g _ rfl c d).trans j,B_ d i,c⟩⟩
class KG (K:outParam aN):Prop where
 zero:∀h,K (.fn 107 [] []) [.nl,.I 0] .no h=some (.ret .nl,.no,h)
 pos:∀(n:Nat) h,0<n->n<=10000000000->K (.fn 107 [] []) [.nl,.I (n:Int)] .no h=some (.ret (.row h.z 0 1 0 0),.no,h.new (.row 0 1 false [] 0))
def Nb {K:aN}{f:Nat}{c a:List AV}{h:AH}{r:ep×RC×AH}(e:K (.fn f [] c) a .no h=some r)(d:niM.contains f=true:=by decide)(ho:noM.contains f=true:=by decide)(b:dpM.contains f=false:=by decide):cS K (.fn f [] c) a .no h=some r:=by
 refine nS ?_;unfold nxt inS Bd;rw[show eH niM (.fn f [] c)=true from d];dsimp only;rw[show eH noM (.fn f [] c)=true from ho];dsimp only;rw[qT (show eH dpM (.fn f [] c)=false from b),e]
section
variable {K:aN}
def To [b:KG K](n:Nat)(d:n<=10000000000)(h:AH):∃V a,cS K (.fn 107 [] []) [.nl,.I (n:Int)] .no h=some (.ret V,.no,a)/\Own h.z 1 false a V (([]:List Int).map AG.bh)/\HK h a:=by
 rcases Nat.eq_zero_or_pos n with rfl|c
 ·exact⟨.nl,h,Nb (b.zero h),cV _ _ _ _,HK.refl h⟩
 exact⟨_,_,Nb (b.pos n h c d),⟨by simp,.inr ⟨h.z,0,rfl,by rw[aD];rfl,by rw[aB];omega,e_ _⟩⟩,HK.new _ _⟩
def encZ (l:List Int):AV:=.eI l
def KH (ls:List (List Int))(h:AH):cw (.ls (ls.map encZ)) h=(.ls (ls.map encZ),h):=by
 have a:∀l,(encZ l).free=true:=λl=>by simp only[encZ,AV.free];exact bY mA l
 rw[bQ (by simp only[AV.free];exact bY a ls)];simp only[AV.norm,bB (λl=>(show(encZ l).norm=encZ l by simp only[encZ,AV.norm,bB ik]))]
instance (ls:List (List Int)):Can (.ls (ls.map encZ)) (.ls (ls.map encZ)):=⟨KH ls⟩
def agA (b:AH)(ls:List (List Int))(j:Nat)(a:AF)(h:AH):Prop:=∃tm p,p+j=ls.length/\a=F_ 66 tm/\h=b/\nth tm 0=.ls (ls.map encZ)/\nth tm 3=.I ((ls.take p).flatten.length:Int)/\nth tm 9=.ls (ls.map encZ)/\nth tm 10=.I (ls.length:Int)/\nth tm 11=.I (p:Int)
def agz (a:AH)(ls:List (List Int))(j:Nat)(b:AF)(h:AH):Prop:=∃tm p V,p+j=ls.length/\b=F_ 66 tm/\HK a h/\nth tm 6=V/\Own a.z 1 false h V ((ls.take p).flatten.map AG.bh)/\nth tm 25=.ls (ls.map encZ)/\nth tm 26=.I (ls.length:Int)/\nth tm 27=.I (p:Int)
def wI (ls:List (List Int)){p:Nat}{l:List Int}(h:ls[p]?=some l):(ls.take (p+1)).flatten=(ls.take p).flatten++l:=by rw[Z_,h];simp
def MR (ls:List (List Int))(p:Nat):(ls.take p).flatten.length<=ls.flatten.length:=by
 conv=>rhs;rw[<-j_ p ls]
 rw[List.flatten_append,H_];omega
def abY [RunsM K][X:KG K](ls:List (List Int))(T:ls.flatten.length<10000000000)(W:ls.length<1000)(h:AH):
  Ret K (66) [.ls (ls.map encZ)] h λv _=>v=.eI ls.flatten:=by
 refine aV afu ?_;simp only[go_sem];refine bo (agA h ls) ls.length o_ ⟨_,0,o_,rfl,rfl,k_,by simp only[go_sem,List.flatten_nil];rfl,k_,k_,y_⟩ ?_;rintro j J H ⟨tm,p,Q,rfl,rfl,t0,y,z,d,i⟩;simp only[go_sem,d,i];refine aU (λb=>?_) (λB=>?_)
 ·have b:p<ls.length:=o_;have a:=a_ b;have A:=aR (f:=encZ) (sz:=1) (λ_=>rfl) a .i64;have c:=wI ls a;have m:=MR ls (p+1);rw[c,H_]at m;have R:IntKind.wrap .i64 (((ls.take p).flatten.length:Int)+(ls[p].length:Int))=((ls.take (p+1)).flatten.length:Int):=by rw[aW _ o_ o_,c,H_];omega
  have f:=aP p o_;have g:∀h,cC (.vp (encZ ls[p])) h false 1=some (.ls (ls[p].map AG.bh)):=λh=>my false 1 rfl rfl;have o:decide (((ls.take (p+1)).flatten.length:Int)<0)=false:=d_;simp only[go_sem,z,i,A,g,y,R,o,f];exact⟨j-1,o_,_,p+1,o_,rfl,rfl,q_ t0,k_,q_ z,q_ d,k_⟩
 have n:p=ls.length:=o_;subst n;rw[K_]at y;have⟨V,_,F,og,r⟩:=To ls.flatten.length o_ H;simp only[go_sem,y,F,t0];refine bo (agz H ls) ls.length o_ ⟨_,0,V,o_,rfl,r,k_,og,q_ t0,k_,y_⟩ ?_;clear t0 y z d i F og r;rintro j J U ⟨tm,p,V,Q,rfl,t,G,x,w,s,u⟩;simp only[go_sem,s,u];refine aU (λb=>?_) (λB=>?_)
 ·have b:p<ls.length:=o_;have a:=a_ b;have A:=aR (f:=encZ) (sz:=1) (λ_=>rfl) a .i64;have c:=wI ls a;have m:=MR ls (p+1);rw[c,H_]at m;have f:=aP p o_;have g:∀h,cC (.vp (encZ ls[p])) h false 1=some (.ls (ls[p].map AG.bh)):=λh=>my false 1 rfl rfl;have⟨L,I,N,O,P,D⟩:=appI x t.z ls[p] o_;simp only[go_sem,w,u,A,g,G,N,f];refine⟨j-1,o_,_,p+1,L,o_,rfl,⟨C_ t.z P,λk q=>(D k q).trans (t.kw k q)⟩,k_,?_,q_ w,q_ s,k_⟩;rw[c];exact O
 have n:p=ls.length:=o_;subst n;rw[K_]at x;have⟨I,M,C,E⟩:=uZ x;simp only[go_sem,G];refine⟨rfl,rfl,.inr rfl,[V],k_,.eI ls.flatten,I,?_,rfl,⟨by rw[C];exact t.z,λk q=>(E k q).trans (t.kw k q)⟩⟩;exact qM (by intro l e;have:=x.2;rcases this with⟨rfl,_⟩|⟨_,_,rfl,_⟩<;>cases e) M
end
def Wh (C:MK.Cx)(t u:T):Prop:=∃n,wf C n t []=some u
def Rf (W:Nat->T->Option T)(t u:T):Prop:=∃n,W n t=some u
def agV {W:Nat->T->Option T}(a:∀n t u,W n t=some u->W (n+1) t=some u){n m:Nat}(le:n<=m){t u:T}(q:W n t=some u):W m t=some u:=by
 induction le with
 |refl=>exact q
 |step _ b=>exact a _ _ _ b
def MG {W:Nat->T->Option T}(c:∀n t u,W n t=some u->W (n+1) t=some u){l r:List T}(h:F2 (Rf W) l r):∃n,ju (W n) l=some r:=by
 induction h with
 |nil=>exact⟨0,rfl⟩
 |cons a b d=>
  have⟨n,e⟩:=a;have⟨m,hm⟩:=d;refine⟨max n m,?_⟩;unfold ju;rw[agV c (Nat.le_max_left n m) e];simp only;rw[iQ (λt u q=>agV c (Nat.le_max_right n m) q) _ _ hm]
def Hk {W:Nat->T->Option T}(a:∀n t u,W n t=some u->W (n+1) t=some u){n m:Nat}(h:n<=m){l r:List T}(e:ju (W n) l=some r):ju (W m) l=some r:=iQ (λ_t _u q=>agV a h q) _ _ e
def Co (K:aN)(B B1:Nat)(U:Nat->Prop)(f:Nat)(c a:List AV)(h:AH)(Q:AV->AH->Prop):Prop:=
 ∃o b,cS K (.fn f [] c) a .no h=some (o,.no,b)/\HX B B1 U h b/\((∃v,o=.ret v/\Q v b)\/o=.pan pv)
def PO (B B1:Nat)(U:Nat->Prop)(h:AH)(Q:AV->AH->Prop)(o:ep)(b:RC)(a:AH):Prop:=b=.no/\HX B B1 U h a/\((∃v,o=.ret v/\Q v a)\/o=.pan pv)
def NB {K:aN}{B B1:Nat}{U:Nat->Prop}{h:AH}[RunsM K]{f r:Nat}{g:List bG}{b:bu}{c a d:List AV}{Q:AV->AH->Prop}(e:EG f=some ⟨r,g,b⟩)(e0:jB a h=(d,h))
  (k:R_ K [.code b] (XQ (cS K) g (mD (PO B B1 U h Q))) .normal ⟨cU (d++c),⟨[],.no,none,f⟩⟩ h)
  (n:f∈ud:=by decide) (m:niM.contains f=false:=by decide) (ho:noM.contains f=false:=by decide) (i:dpM.contains f=false:=by decide):Co K B B1 U f c a h Q:=by
 obtain⟨o,_,q,p,rfl,j,l⟩:=(lW n m ho i) c a d .no h h _ _ _ (PO B B1 U h Q) e e0 k;exact⟨o,q,p,j,l⟩
def KP {K:aN}{B B1:Nat}{U:Nat->Prop}{h:AH}[RunsM K]{f m:Nat}{e:List bG}{b:bu}{c a g:List AV}{Q:AV->AH->Prop}(d:EG f=some ⟨m,e,b⟩)[n:CanL a g]
  (j:R_ K [.code b] (XQ (cS K) e (mD (PO B B1 U h Q))) .normal ⟨cU (g++c),⟨[],.no,none,f⟩⟩ h)
  (l:f∈ud:=by decide) (k:niM.contains f=false:=by decide) (ho:noM.contains f=false:=by decide) (i:dpM.contains f=false:=by decide):Co K B B1 U f c a h Q:=NB d (n.c h) j l k ho i
def fF {call:aN}{B B1:Nat}{U:Nat->Prop}{h:AH}{c:List bG}{tm:Tm}{a:Option Nat}{f:FuncId}{b:AH}{Q:AV->AH->Prop}(hm:HX B B1 U h b):
  XQ call c (mD (PO B B1 U h Q)) (.panic pv) ⟨tm,⟨[],.no,a,f⟩⟩ b:=jE ⟨rfl,hm,.inr rfl⟩
def xY {call:aN}{B B1:Nat}{U:Nat->Prop}{c:List bG}{tm:Tm}{b:Option Nat}{f:FuncId}{h a:AH}{e:AEx}{r:Int}{Q:AV->AH->Prop}(g:e=.normal\/e=.ret)(i:fH c tm a=some [.I r])(hm:HX B B1 U h a)(d:Q (.I r) a):
  XQ call c (mD (PO B B1 U h Q)) e ⟨tm,⟨[],.no,b,f⟩⟩ a:=jl g i ⟨.I r,a,cv_ (aL _ _ _),rfl,hm,.inl ⟨_,rfl,d⟩⟩
def Yi (B:Nat)(Y:Ms->AH->Prop):Prop:=∀M b h a,Y M h->Le M b->a.get (B+4)=h.get (B+4)->a.get (B+5)=h.get (B+5)->Y b a
structure Mem (C:MK.Cx)(M:Ms):Prop where
 w:∀e∈M.w,∃t u,At M.ts e.1 t/\At M.ts e.2 u/\Wh C t u
 n:∀e∈M.n,∃t u,At M.ts e.1 t/\At M.ts e.2 u/\Rl C t u
def Mem.up {C:MK.Cx}{M d:Ms}(m:Mem C M)(le:Le M d)(f:d.w=M.w)(g:d.n=M.n):Mem C d where
 w e he:=by
  rw[f]at he;have⟨t,u,a,b,c⟩:=m.w e he;exact⟨t,u,le.at a,le.at b,c⟩
 n e he:=by
  rw[g]at he;have⟨t,u,a,b,c⟩:=m.n e he;exact⟨t,u,le.at a,le.at b,c⟩
structure Mx (C:MK.Cx)(M M':Ms):Prop where
 ct:Ct M'
 mem:Mem C M'
 vis:M.vis<=M'.vis
 con:M.con<=M'.con
def Sv.mx {C:MK.Cx}{M a:Ms}(s:Sv M a)(c:Ct M)(m:Mem C M)(le:Le M a):Mx C M a:=⟨s.ct c,m.up le s.w s.n,s.vis,Int.le_of_eq s.con.symm⟩
def Mx.trans {C:MK.Cx}{a b c:Ms}(x:Mx C a b)(y:Mx C b c):Mx C a c:=⟨y.ct,y.mem,Int.le_trans x.vis y.vis,Int.le_trans x.con y.con⟩
theorem Mx.refl {C:MK.Cx}{M:Ms}(c:Ct M)(m:Mem C M):Mx C M M:=⟨c,m,Int.le_refl _,Int.le_refl _⟩
section
variable {K:aN}{A:Ma}{B B1:Nat}{E:AV}{M:Ms}{gN gF:Nat}{h:AH}{C:MK.Cx}
theorem Yi.hm {Y:Ms->AH->Prop}(c:Yi B Y){M b:Ms}{a:AH}(y:Y M h)(s:St A B B1 E M gN gF h)(le:Le M b)(x:HM B B1 h a):Y b a:=by
 have d:=s.b1;have e:=s.ok.us;exact c _ _ _ _ y le (x.kw _ o_ (.inr (.inr (.inl rfl)))) (x.kw _ o_ (.inr (.inr (.inr rfl))))
def Yi.set {Y:Ms->AH->Prop}(a:Yi B Y){M:Ms}(y:Y M h){k:Nat}(o:dF)(b:B+5<k):Y M (h.set k o):=a _ _ _ _ y (Le.refl M) (aA o_) (aA o_)
structure Gw (A:Ma)(B B1:Nat)(U:Nat->Prop)(E:AV)(Y:Ms->AH->Prop)(M:Ms)(h0 h:AH)(M':Ms)(gN gF:Nat):Prop where
 st:St A B B1 E M' gN gF h
 g:Wg M'
 le:Le M M'
 hm:HX B B1 U h0 h
 y:Y M' h
def Fn1 (K:aN)(A:Ma)(B B1:Nat)(U:Nat->Prop)(E:AV)(C:MK.Cx)(c:Int)(f:AV)(W:Nat->T->Option T)(Y:Ms->AH->Prop):Prop:=∀(M:Ms) (gN gF:Nat) (h:AH) (x:Int) (t:T),St A B B1 E M gN gF h->Wg M->Ct M->Mem C M->c<=M.vis->At M.ts x t->Y M h->
 ∃o a,cS K f [.I x] .no h=some (o,.no,a)/\HX B B1 U h a/\((∃v,o=.ret v/\Gq A B B1 E M a λb=>Mx C M b/\Y b a/\∃r u,v=.I r/\At b.ts r u/\Rf W t u)\/o=.pan pv)
structure J1073 (A:Ma)(B B1:Nat)(U:Nat->Prop)(E:AV)(C:MK.Cx)(W:Nat->T->Option T)(Y:Ms->AH->Prop)(M:Ms)(nv:NV)(ks:List T)(b9 kk:Nat)(h0 h:AH)(M':Ms)(gN gF:Nat)(dn:List Int)(us:List T)(p:Nat):Prop where
 gs:Gw A B B1 U E Y M h0 h M' gN gF
 mx:Mx C M M'
 g9:h.get b9=some (.box (n_ nv))
 row:h.get kk=some (.row 0 1 false (bJ ((dn++List.replicate (nv.K.length-p) 0).map AG.bh)) 0)
 lk:Lk M'.ts dn us
 f2:F2 (Rf W) (ks.take p) us
 pl:p<=nv.K.length
 nx:kk<h.z
 dl:dn.length=p
def agy (A:Ma)(B B1:Nat)(U:Nat->Prop)(E:AV)(C:MK.Cx)(W:Nat->T->Option T)(Y:Ms->AH->Prop)(M:Ms)(a:NV)(l:List T)(f:AV)(args:List Int)(b c:Nat)(g:AH)(j:Nat)(d:AF)(h:AH):Prop:=∃tm p e gN gF i k,p+j=a.K.length/\d=F_ 73 tm/\
 nth tm 0=.P A.a/\nth tm 2=f/\nth tm 8=.eI args/\nth tm 9=.P b/\nth tm 10=.row c 0 1 0 a.K.length/\nth tm 35=.eI a.K/\nth tm 36=.I (a.K.length:Int)/\nth tm 37=.I (p:Int)/\
 J1073 A B B1 U E C W Y M a l b c g h e gN gF i k p
def agx (A:Ma)(B B1:Nat)(U:Nat->Prop)(E:AV)(C:MK.Cx)(W:Nat->T->Option T)(Y:Ms->AH->Prop)(M:Ms)(e:T)(f:AV)(args:List Int)(a:List T)(g:AH)(j:Nat)(d:AF)(h:AH):Prop:=∃tm p b gN gF r c,p+j=args.length/\d=F_ 73 tm/\
 nth tm 0=.P A.a/\nth tm 2=f/\nth tm 13=.I r/\nth tm 54=.eI args/\nth tm 55=.I (args.length:Int)/\nth tm 56=.I (p:Int)/\
 Gw A B B1 U E Y M g h b gN gF/\Mx C M b/\At b.ts r (bA e c)/\F2 (Rf W) (a.take p) c
def MT {b:T->T->Prop}{l r:List T}{x y:T}(h:F2 b l r)(a:b x y):F2 b (l++[x]) (r++[y]):=UU h (.cons a .nil)
def abW [RunsM K][km:KM K]{v0:Int}{f:AV}{W:Nat->T->Option T}(hW:∀n t u,W n t=some u->W (n+1) t=some u){U:Nat->Prop}(hU:∀k,U k->B<=k/\k<B1){Y:Ms->AH->Prop}(yi:Yi B Y)(hf:Fn1 K A B B1 U E C v0 f W Y)(ao:∀h,cw f h=(f,h))(s:St A B B1 E M gN gF h)(g:Wg M)(c:Ct M)(bl:Mem C M)(hv:v0<=M.vis){x:Int}{t:T}(hx:At M.ts x t)(y:Y M h):
  Co K B B1 U (73) [] [.P A.a,.I x,f] h λv h'=>Gq A B B1 E M h' λM'=>Mx C M M'/\Y M' h'/\∃r u n,v=.I r/\At M'.ts r u/\parts (W n) t=some u:=by
 have b1:=s.b1;have cg:=s.ok.us;have nU:∀{k:Nat},B1<=k->¬U k:=λa b=>by have:=(hU _ b).2;omega
 refine NB afq (ae (bS _ _ _ _) (ae (aL _ _ _) (ae (ao _) (aH _)))) ?_;obtain⟨v,H1,e1,⟨ci,args,rfl,ah,az,ch⟩,k1⟩:=JW s g x t hx;have s1:=s.hk k1;obtain⟨aw,rfl,eh⟩:=ah.nat;obtain⟨d,ks,hn,au,al,cu,tok,_⟩:=g.at_node ah;have hn:M.ns[aw]?=some d:=by simpa using hn
 have hj:=(E_.1 hn).1;have cl:=s1.cell hn;have ad:=s1.addr hj;have gA:=s1.gA;have l5:=cl.l5;unfold kj at gA;unfold bU at l5;simp only[go_sem,e1,gA,ad,l5];obtain⟨D,bk,k2,cs,g9⟩:=ns H1 (.box zT) (.box (n_ d));rw[<-bk];clear bk;have cq:=k1.z;have cr:d.K.length<=3:=by
  have:=(g.nok (m_ hn)).nd.K;unfold cN at this;split at this
  ·omega
  split at this
  ·omega
  split at this<;>omega
 have ak:=El d.K.length o_ D;obtain⟨H3,I,k3,_⟩:=nw D (.row 0 1 false (bJ ((List.replicate d.K.length (0:Int)).map AG.bh)) 0);rw[<-I]at ak;have be:=k3.up g9;have ap:H3.get D.z=some (.row 0 1 false (bJ ((List.replicate d.K.length (0:Int)).map AG.bh)) 0):=by rw[I,aD]
 have cv:H3.z=D.z+1:=by rw[I,aB]
 clear I;have Q:=(k1.trans k2).trans k3;simp only[go_sem,ak,be];refine bo (agy A B B1 U E C W Y M d ks f args H1.z D.z h) d.K.length o_ ⟨_,0,M,gN,gF,[],[],o_,rfl,k_,k_,k_,k_,k_,k_,k_,y_,
  ⟨⟨s.hk Q,g,Le.refl M,(HK.m Q).x,yi.hm y s (Le.refl M) (HK.m Q)⟩,Mx.refl c bl,be,by simpa using ap,trivial,.nil,o_,o_,rfl⟩⟩ ?_
 rintro j fr H4 ⟨tm,p,M4,bf,aq,G,us,hp,rfl,t0,t2,t8,t9,R,bg,bd,P,J⟩;have bx:=J.nx;have dl:=J.dl;have av:=J.g9;simp only[go_sem,bd,P];refine aU (λe=>?_) (λa7=>?_)
 ·have e:p<d.K.length:=o_;have l:=a_ e;obtain⟨y,ey,ay⟩:=al.get l;have ha:=aR (f:=AG.bh) (sz:=1) (λ_=>rfl) l .i64;have ag:=aP p o_;have bm:=jf (kk:=D.z) (g:=0) (sz:=1) e .i64;obtain⟨o5,H5,e5,i,q5⟩:=hf M4 bf aq H4 d.K[p] y J.gs.st J.gs.g J.mx.ct J.mx.mem (Int.le_trans hv J.mx.vis) (J.gs.le.at ay) J.gs.y;simp only[go_sem,t2,R,bg,P,ha];rcases q5 with⟨v,rfl,M5,a1,ax,L,g5,z,w,y5,r,u,rfl,a5,n5⟩|rfl
  ·have o:=(i.kw _ o_ (.inr o_) (nU o_)).trans J.row;have H:=rM (x:=AG.bh r) (a:=p) o (ng _) (by simp[dl];omega) rfl rfl;rw[<-List.map_set,Kh G _ p r dl e]at H;have H:cY (.ptr D.z 0 (p*1)) H5 1 (.I r)=_:=H;simp only[go_sem,e5,bm,H,P,ag];have s7:=L.set (.row 0 1 false (bJ ((G++[r]++List.replicate (d.K.length-(p+1)) 0).map AG.bh)) 0) (k:=D.z) o_;have N:HX B B1 U h (H5.set D.z (.row 0 1 false (bJ ((G++[r]++List.replicate (d.K.length-(p+1)) 0).map AG.bh)) 0)):=(J.gs.hm.trans i).set _ (.inl o_);refine⟨j-1,o_,_,p+1,M5,a1,ax,G++[r],us++[u],o_,rfl,q_ t0,q_ t2,q_ t8,q_ t9,q_ R,q_ bg,q_ bd,k_,
    ⟨⟨s7,g5,J.gs.le.trans z,N,yi.set y5 _ o_⟩,J.mx.trans w,?_,aF _ _ _,(z.lk J.lk).snoc a5,?_,o_,by rw[aE];have:=i.z;omega,by simp[dl]⟩⟩
   ·rw[aA o_];exact(i.kw _ o_ (.inr o_) (nU o_)).trans av
   rw[Z_,ey,Option.toList_some];exact MT J.f2 n5
  simp only[go_sem,e5];exact fF (J.gs.hm.trans i)
 have bw:p=d.K.length:=by have:=J.pl;omega
 subst bw;have o:=J.row;rw[Nat.sub_self,List.replicate_zero,A_]at o;have ab:=J.f2;rw[al.len,K_]at ab;obtain⟨H6,m⟩:∃H6:AH,H6=H4.set H1.z (.box [.I d.D,.I d.X,.str d.N,.eL d.L,.row D.z 0 1 0 d.K.length]):=⟨_,rfl⟩;have g6:H6.get H1.z=some (.box [.I d.D,.I d.X,.str d.N,.eL d.L,.row D.z 0 1 0 d.K.length]):=by rw[m,aF]
 have a2:H6.get D.z=some (.row 0 1 false (bJ (G.map AG.bh)) 0):=by rw[m,aA o_];exact o
 obtain⟨H7,cb,n7,k7⟩:=AJ d.D d.X d.N d.L G (by rw[dl]) a2 (by rw[m,aE];exact bx);have o6:∀k,k≠H1.z->k≠D.z->H7.get k=H4.get k:=λk q1 q2=>by rw[k7 k q2,m,aA q1]
 have ck:H7.z=H4.z:=by rw[n7,m,aE]
 have cn:=J.gs.hm.z;have s7:St A B B1 E M4 bf aq H7:=J.gs.st.up o_ λk _ q=>o6 k o_ o_;have N:HX B B1 U h H7:=⟨o_,λk q1 q2 q3=>by rw[o6 k o_ o_];exact J.gs.hm.kw k q1 q2 q3⟩;have y7:Y M4 H7:=yi _ _ _ _ J.gs.y (Le.refl _) (o6 _ o_ o_) (o6 _ o_ o_);have bb:TOK (ndT ⟨d.D,d.X,d.N,d.L,G⟩ us):=by
  rw[au]at tok;unfold ndT TOK at tok ⊢;refine⟨by rw[<-uQ ab];exact tok.1,dh.2 λt ht=>?_⟩;obtain⟨j,hj⟩:=J_ ht;obtain⟨c',_,ac⟩:=J.lk.get' hj;exact J.gs.g.atok ac
 obtain⟨o8,H8,e8,S,q8⟩:=FK s7 J.gs.g ⟨d.D,d.X,d.N,d.L,G⟩ us J.lk bb;rw[<-dJ (f:=96) (c:=[]) (ae (bS A.a 0 0 H6) (ae cb (aH _))) (ae (bS _ _ _ _) (ae (wi _ _) (aH _)))]at e8;simp only[go_sem,t9,R,av];rw[<-m];clear m;simp only[go_sem,t0];rcases q8 with⟨v,rfl,M8,b5,b4,bv,g8,V,ce,r,rfl,a8⟩|rfl
 ·simp only[go_sem,e8,t8];have b2:=J.mx.trans ((ce.v J.mx.ct).mx J.mx.ct J.mx.mem V);refine bo (agx A B B1 U E C W Y M (ndT ⟨d.D,d.X,d.N,d.L,G⟩ us) f args (aT t).2 h) args.length o_ ⟨_,0,M8,b5,b4,r,[],o_,rfl,q_ t0,q_ t2,k_,k_,k_,y_,⟨bv,g8,J.gs.le.trans V,N.trans S.x,yi.hm y7 s7 V S⟩,b2,a8,.nil⟩ ?_;rintro j fr H9 ⟨tm,p,M9,a3,bi,r9,a9,hp,rfl,t0,t2,af,am,an,aa,⟨a4,a0,Z,O,y9⟩,F,ar,X⟩;simp only[go_sem,an,aa];refine aU (λe=>?_) (λa7=>?_)
  ·have e:p<args.length:=o_;have l:=a_ e;obtain⟨y,ey,ay⟩:=az.get l;have ha:=aR (f:=AG.bh) (sz:=1) (λ_=>rfl) l .i64;have ag:=aP p o_;obtain⟨o5,H5,e5,i,q5⟩:=hf M9 a3 bi H9 args[p] y a4 a0 F.ct F.mem (Int.le_trans hv F.vis) (Z.at ay) y9;simp only[go_sem,t0,t2,af,am,aa,ha];rcases q5 with⟨v,rfl,M5,a1,ax,L,g5,z,w,y5,r5,u,rfl,a5,n5⟩|rfl
   ·have tk:=zf (g5.atok (z.at ar)) (g5.atok a5);obtain⟨o6,co,e6,ai,q6⟩:=Ga (h:=H5) (FM L g5 4 [r9,r5] [bA (ndT ⟨d.D,d.X,d.N,d.L,G⟩ us) a9,u] ⟨z.at ar,a5,trivial⟩ tk) (ae (bS _ _ _ _) (ae (aL _ _ _) (ae (EM r9 r5 H5) (aH _)))) (ae (bS _ _ _ _) (ae (aL _ _ _) (ae (eQ _ _) (aH _)))) (HM.refl H5);simp only[go_sem,e5];rcases q6 with⟨v,rfl,M6,b3,b0,b8,b9,aj,ca,r6,rfl,a6⟩|rfl
    ·simp only[go_sem,e6,aa,ag];have cf:=(ca.v w.ct).mx w.ct w.mem aj;refine⟨j-1,o_,_,p+1,M6,b3,b0,r6,a9++[u],o_,rfl,q_ t0,q_ t2,k_,q_ am,q_ an,k_,⟨b8,b9,(Z.trans z).trans aj,(O.trans i).trans ai.x,yi.hm y5 L aj ai⟩,(F.trans w).trans cf,?_,?_⟩
     ·rw[uI];exact a6
     rw[Z_,ey,Option.toList_some];exact MT X n5
    simp only[go_sem,e6];exact fF ((O.trans i).trans ai.x)
   simp only[go_sem,e5];exact fF (O.trans i)
  have bq:p=args.length:=o_;subst bq;rw[az.len,K_]at X;obtain⟨n1,cc⟩:=MG hW ab;obtain⟨n2,br⟩:=MG hW X;simp only[go_sem,af];refine xY (.inr rfl) k_ O ⟨M9,a3,bi,a4,a0,Z,F,y9,r9,_,max n1 n2,rfl,ar,?_⟩;unfold parts;rw[au];have e1:ju (W (max n1 n2)) (ndT d ks).K=some us:=Hk hW (Nat.le_max_left _ _) cc;rw[e1];simp only;rw[Hk hW (Nat.le_max_right _ _) br];rfl
 simp only[go_sem,e8];exact fF (N.trans S.x)
end
structure CtV where
 N:ByteArray
 type:T
structure FnV where
 N:ByteArray
 type:T
 a:Int
 tree:gK
structure DV where
 D:Int
 N:ByteArray
 Q:Int
 type:T
 v:T
 f:Int
 C:List CtV
 rp:Int
 rt:T
 R:List T
 F:List FnV
mutual
def fg:gK->AV
 |.mk k a v b=>.agg [.I k,.I a.D,.I a.X,.str a.N,.eL a.L,.eT a.K,.I v,.ls (qU b)]
def qU:List Br->List AV
 |[]=>[]
 |.mk c a t::l=>.agg (.str c :: .bool a::(fg t).cells)::qU l
end
def nK:Br->AV
 |.mk c a t=>.agg (.str c :: .bool a::(fg t).cells)
theorem yV:∀l:List Br,qU l=l.map nK
 |[]=>rfl
 |.mk c a t::l=>by rw[qU,yV l];rfl
def fS (k:Int)(a:T)(v:Int)(b:List Br):List AV:=[.I k,.I a.D,.I a.X,.str a.N,.eL a.L,.eT a.K,.I v,.ls (b.map nK)]
theorem yT (k:Int)(a:T)(v:Int)(b:List Br):fg (.mk k a v b)=.agg (fS k a v b):=by rw[fg,yV];rfl
def lV:gK->Int|.mk k _ _ _=>k
def fV:gK->T|.mk _ b _ _=>b
def eW:gK->Int|.mk _ _ v _=>v
def cm:gK->List Br|.mk _ _ _ l=>l
def bc (t:gK):List AV:=fS (lV t) (fV t) (eW t) (cm t)
@[go_sem] def cellsTr_len (t:gK):(bc t).length=8:=(rfl)
def oe (t:gK):(fg t).cells=bc t:=by cases t;rw[yT];rfl
theorem cj (t:gK):fg t=.agg (bc t):=by cases t;rw[yT];rfl
def jb (c:CtV):AV:=.agg (.str c.N::aG c.type)
def gk (f:FnV):AV:=.agg (.str f.N::(aG f.type++(.I f.a::bc f.tree)))
def gJ (d:DV):AV:=.agg (.I d.D :: .str d.N :: .I d.Q::(aG d.type++(aG d.v++(.I d.f :: .ls (d.C.map jb) :: .I d.rp::(aG d.rt++[.eT d.R,.ls (d.F.map gk)])))))
abbrev _root_.Go.AG.AV.eD (l:List DV):AV:=.ls (l.map gJ)
structure EV where
 D:Int
 decl:Int
 item:Int
 Q:Int
 type:T
def uN (e:EV):AV:=.agg (.I e.D :: .I e.decl :: .I e.item :: .I e.Q::aG e.type)
def nY (t:T):AV.frees (aG t)=true:=by
 have:=mY t;rw[eM]at this;simpa only[AV.free] using this
def nX (t:T):AV.norms (aG t)=aG t:=by
 have:=iU t;rw[eM]at this;simp only[AV.norm]at this;injection this
def CC (a b:List AV):AV.frees (a++b)=(AV.frees a&&AV.frees b):=by
 induction a with
 |nil=>simp[AV.frees]
 |cons x l c=>simp[AV.frees,c,Bool.and_assoc]
mutual
def uF:∀t:gK,(fg t).free=true
 |.mk k b v a=>by simp[fg,AV.free,AV.frees,bY jK,bY mY,xv a]
def xv:∀l:List Br,AV.frees (qU l)=true
 |[]=>rfl
 |.mk c a t::l=>by
  have h:=uF t;rw[cj]at h;simp only[AV.free]at h;simp[qU,AV.frees,AV.free,oe,h,xv l]
end
mutual
def uE:∀t:gK,(fg t).norm=fg t
 |.mk k b v a=>by simp[fg,AV.norm,AV.norms,bB iS,bB iU,xt a]
def xt:∀l:List Br,AV.norms (qU l)=qU l
 |[]=>rfl
 |.mk c a t::l=>by
  have h:=uE t;rw[cj]at h;simp only[AV.norm]at h;injection h with h;simp only[qU,AV.norms,AV.norm,oe,h,xt l]
end
def uH (t:gK):AV.frees (bc t)=true:=by have:=uF t;rw[cj]at this;simpa only[AV.free] using this
def uG (t:gK):AV.norms (bc t)=bc t:=by
 have:=uE t;rw[cj]at this;simp only[AV.norm]at this;injection this
def Ji (c:CtV):(jb c).free=true:=by simp[jb,AV.free,AV.frees,nY]
def Jh (c:CtV):(jb c).norm=jb c:=by simp only[jb,AV.norm,AV.norms,nX]
def Je (f:FnV):(gk f).free=true:=by simp[gk,AV.free,AV.frees,CC,nY,uH]
def Jd (f:FnV):(gk f).norm=gk f:=by simp only[gk,AV.norm,AV.norms,pJ,nX,uG]
def Pj (e:EV):(uN e).free=true:=by simp[uN,AV.free,AV.frees,nY]
theorem Ph (e:EV):(uN e).norm=uN e:=by simp only[uN,AV.norm,AV.norms,nX]
def lp (d:DV):(gJ d).free=true:=by
 simp[gJ,AV.free,AV.frees,CC,nY,bY Ji,bY Je,bY mY]
theorem lj (d:DV):(gJ d).norm=gJ d:=by
 simp only[gJ,AV.norm,AV.norms,pJ,nX,bB Jh,bB Jd,bB iU]
def JT (e:EV)(h:AH):cw (uN e) h=(uN e,h):=by rw[bQ (Pj e),Ph]
instance (e:EV):Can (uN e) (uN e):=⟨JT e⟩
def xM (d:DV)(h:AH):cw (gJ d) h=(gJ d,h):=by rw[bQ (lp d),lj]
instance (d:DV):Can (gJ d) (gJ d):=⟨xM d⟩
def uT (l:List DV)(h:AH):cw (.eD l) h=(.eD l,h):=by
 rw[bQ (by simp only[AV.free];exact bY lp l)];simp only[AV.norm,bB lj]
instance (l:List DV):Can (.eD l) (.eD l):=⟨uT l⟩
def BF (nm:ByteArray):ByteArray:=nm++bs [46,114,101,99]
def rq (d:DV)(a:Int):List CtV->Nat->List (ByteArray×EV)
 |[],_=>[]
 |c::l,i=>(c.N,⟨4,a,i,d.Q,c.type⟩)::rq d a l (i+1)
def sY (d:DV)(a:Int):List FnV->Nat->List (ByteArray×EV)
 |[],_=>[]
 |f::l,i=>(f.N,⟨6,a,i,d.Q,f.type⟩)::sY d a l (i+1)
def gY (d:DV)(a:Int):List (ByteArray×EV):=
 if d.D=0\/d.D=1\/d.D=2 then [(d.N,⟨d.D,a,0,d.Q,d.type⟩)]
 else if d.D=3 then (d.N,⟨3,a,0,d.Q,d.type⟩)::(rq d a d.C 0++[(BF d.N,⟨5,a,0,d.rp,d.rt⟩)])
 else if d.D=4 then sY d a d.F 0 else []
def eU (nm:ByteArray):List (ByteArray×EV)->Option EV
 |[]=>none
 |e::l=>if e.1=nm then some e.2 else eU nm l
def fG (nm:ByteArray):List DV->Nat->Option EV
 |[],_=>none
 |d::l,i=>match eU nm (gY d i) with
  |some e=>some e
  |none=>fG nm l (i+1)
def Cs {nm:ByteArray}: ∀{l:List (ByteArray×EV)} {e:EV},eU nm l=some e->(nm,e)∈l
 |x::l,e,h=>by
  unfold eU at h;split at h
  ·rename_i q;cases h;rw[<-q];exact List.mem_cons_self
  exact List.mem_cons_of_mem _ (Cs h)
def CJ {d:DV}{a:Int}: ∀{l:List CtV} {i:Nat} {p:ByteArray×EV},p∈rq d a l i->∃(j:Nat) (c:CtV),l[j]?=some c/\p=(c.N,⟨4,a,((i+j:Nat):Int),d.Q,c.type⟩)
 |c::l,i,p,h=>by
  rcases X_.1 h with rfl|h
  ·exact⟨0,c,rfl,rfl⟩
  have⟨j,x,e,b⟩:=CJ h;exact⟨j+1,x,by simpa using e,by rw[b,show i+1+j=i+(j+1) by omega]⟩
def CH {d:DV}{a:Int}: ∀{l:List FnV} {i:Nat} {p:ByteArray×EV},p∈sY d a l i->∃(j:Nat) (c:FnV),l[j]?=some c/\p=(c.N,⟨6,a,((i+j:Nat):Int),d.Q,c.type⟩)
 |c::l,i,p,h=>by
  rcases X_.1 h with rfl|h
  ·exact⟨0,c,rfl,rfl⟩
  have⟨j,x,e,b⟩:=CH h;exact⟨j+1,x,by simpa using e,by rw[b,show i+1+j=i+(j+1) by omega]⟩
inductive Ent (env:List DV):EV->Prop where
 |plain (k:Int) (n:Nat) (d:DV) (p:Int) (t:T):env[n]?=some d->d.D=k->(k=0\/k=1\/k=2\/k=3)->Ent env ⟨k,n,0,p,t⟩
 |ctor (n j:Nat) (d:DV) (c:CtV) (p:Int):env[n]?=some d->d.D=3->d.C[j]?=some c->Ent env ⟨4,n,j,p,c.type⟩
 |rcr (n:Nat) (d:DV) (p:Int) (t:T):env[n]?=some d->d.D=3->Ent env ⟨5,n,0,p,t⟩
 |fn (n j:Nat) (d:DV) (f:FnV) (p:Int):env[n]?=some d->d.D=4->d.F[j]?=some f->Ent env ⟨6,n,j,p,f.type⟩
def jm {nm:ByteArray}(a:List DV):∀(l:List DV) (i:Nat) (e:EV),(∀j,l[j]?=a[i+j]?)->fG nm l i=some e->Ent a e
 |[],_,_,_,h=>by cases h
 |d::l,i,e,k,h=>by
  unfold fG at h;have b:a[i]?=some d:=by have:=k 0;simpa using this.symm
  cases hk:eU nm (gY d i) with
  |none=>
   rw[hk]at h;exact jm a l (i+1) e (λj=>by have:=k (j+1);simpa [show i+(j+1)=i+1+j by omega] using this) h
  |some x=>
   rw[hk]at h;cases h;have hm:=Cs hk;unfold gY at hm;split at hm
   ·rename_i q;rw[W_]at hm;cases hm;exact .plain _ _ _ _ _ b rfl o_
   split at hm
   ·rename_i q;rcases X_.1 hm with hm|hm
    ·cases hm;exact .plain _ _ _ _ _ b q o_
    rcases List.mem_append.1 hm with hm|hm
    ·have⟨j,c,g,f⟩:=CJ hm;cases f;rw[z_];exact .ctor _ _ _ _ _ b q g
    rw[W_]at hm;cases hm;exact .rcr _ _ _ _ b q
   split at hm
   ·rename_i q;have⟨_,_,g,f⟩:=CH hm;cases f;rw[z_];exact .fn _ _ _ _ _ b q g
   cases hm
def fD:T->List T
 |.mk k _ _ _ [a,b]=>if k=6 then a::fD b else []
 |_=>[]
def qv:T->T
 |.mk k i nm ls [a,b]=>if k=6 then qv b else .mk k i nm ls [a,b]
 |t=>t
def bM (d:DV):Nat:=(d.f+1+d.C.length).toNat
def oD (a:List DV)(nm:ByteArray)(n:Nat):Cst:=
 match fG nm a 0 with
 |none=>.rigid
 |some e=>if e.Q=n then
   match a[e.decl.toNat]? with
   |none=>.rigid
   |some d=>
    if e.D=1 then .dfn d.v
    else if e.D=5 then .rcr (bM d) (bM d+((fD d.type).length:Int)-d.f).toNat d.N d.R
    else if e.D=6 then
     match d.F[e.item.toNat]? with
     |none=>.rigid
     |some f=>.fn f.a.toNat f.tree
    else .rigid
  else .rigid
def um (a:List DV)(nm:ByteArray):Option (ByteArray×Nat×Nat×Nat×ByteArray):=
 match fG nm a 0 with
 |none=>none
 |some e=>if e.D=4 then
   match a[e.decl.toNat]? with
   |none=>none
   |some d=>match d.C[e.item.toNat]? with
    |none=>none
    |some c=>some (d.N,e.item.toNat,(fD c.type).length,d.f.toNat,c.N)
  else none
def rQ {c:Type}{f:c->AV}{a b:Nat}{agg:Bool}{h:AH}{V:AV}{l:List c}(i:∀x,(f x).norm=f x)(hs:agg=false->b=1)(o:Own a b agg h V (l.map f)):∃h',cw V h=(.ls (l.map f),h')/\h'.z=h.z/\∀k,k<a->h'.get k=h.get k:=by
 rcases iT o hs with⟨rfl,e,_⟩|⟨k,g,j,d,p,m⟩
 ·rw[List.map_eq_nil_iff]at e;subst e;exact⟨h,dL h,rfl,λ_ _=>rfl⟩
 refine⟨h.set k (.row g b agg (bJ (l.map f)) ((l.map f).length*b)),?_,aE _ _ _,λn hk=>aA o_⟩;have:nI V h=dM V h:=by rw[j];rfl
 rw[cw,this,d];show(AV.ls (AV.norms _),_)=_;rw[bB i]
def yY (t:T)(h:AH):cw (.agg (aG t)) h=(enc t,h):=by rw[<-eM];exact cJ t h
def DG {k i:Int}{nm:ByteArray}{ls:List LL}{d:List T}(h:¬(k=6/\d.length=2)):fD (.mk k i nm ls d)=[]/\qv (.mk k i nm ls d)=.mk k i nm ls d:=by
 match d with
 |[]=>exact⟨by rw[fD];intros;simp_all,by rw[qv];intros;simp_all⟩
 |[a]=>exact⟨by rw[fD];intros;simp_all,by rw[qv];intros;simp_all⟩
 |[a,b]=>
  have hk:¬k=6:=λe=>h ⟨e,rfl⟩;exact⟨by rw[fD,N_ hk],by rw[qv,N_ hk]⟩
 |a::b::c::l=>exact⟨by rw[fD];intros;simp_all,by rw[qv];intros;simp_all⟩
structure J312 (t:T)(h0 h:AH)(c:T)(V:AV)(out:List T):Prop where
 b1:h.get h0.z=some (.box (aG c))
 b2:h.get (h0.z+1)=some (.box zT)
 own:Own (h0.z+2) 5 true h V (out.map enc)
 kw:HK h0 h
 nx:h0.z+2<=h.z
 sp:fD t=out++fD c/\qv t=qv c
 sz:aO c+out.length<=aO t
def I312 (t:T)(a:AH)(j:Nat)(b:AF)(h:AH):Prop:=∃tm c V out,j=aO c/\b=F_ 145 tm/\nth tm 1=.P a.z/\nth tm 3=.P (a.z+1)/\nth tm 4=V/\J312 t a h c V out
def c312 {K:aN}[RunsM K](t:T)(h:AH)(Z:aO t<50000):
  Ret K (145) [enc t] h λv _=>v=.tup [.eT (fD t),enc (qv t)]:=by
 refine aV cf312 ?_;rw[aJ t];simp only[go_sem];have⟨H,n⟩:∃H:AH,H=((h.new (.box (h_ t))).new (.box zT)):=⟨_,rfl⟩;have n1:=aB h (.box (h_ t));have X:J312 t h H t .nl []:=by
  refine⟨?_,?_,cV _ _ _ _,by rw[n];exact(HK.new _ _).add _,by rw[n,aB,n1];omega,⟨by simp,rfl⟩,by simp⟩
  ·rw[n,aM o_,aD];rfl
  rw[n,<-n1,aD]
 rw[<-n];clear n;simp only[go_sem,n1];refine bo (I312 t h) (aO t) o_ ⟨_,t,.nl,[],rfl,rfl,k_,k_,k_,X⟩ ?_;rintro j Y z ⟨tm,c,V,out,rfl,rfl,b,p,s,J⟩;have g:=J.b1;have A:=J.b2;have o:=J.own;unfold aG at g;have nx:=J.nx;have N:=J.sz;have d:∀tm,nth tm 1=.P h.z->nth tm 3=.P (h.z+1)->nth tm 4=V->¬(c.D=6/\c.K.length=2)->
   R_ K [.code Ki] (Fin agF λO L=>O=.tup [.eT (fD t),enc (qv t)]/\HK h L) .normal (F_ 145 tm) z:=by
  intro tm b p s hs;have l:=J.sp;have D:fD c=[]/\qv c=c:=by cases c;exact DG hs
  rw[D.1,D.2,A_]at l;have M:¬h.z+1=h.z:=o_;simp only[go_sem,Ki,b,p,s,g,A];have⟨P,C,Q,U⟩:=rQ iU (λe=>by cases e) (bP (h':=z.set (h.z+1) (.box (aG c))) o (by rw[aE];exact e_ _) (λa q _=>aA o_));have B:=yY c P;unfold aG at C B;refine⟨rfl,rfl,.inr rfl,[V,.agg [_,_,_,_,_]],q_ p,_,_,bF (ae C (ae B (aH _))),?_,?_,?_⟩
  ·rw[l.1,l.2]
  ·rw[Q,aE];have:=J.kw.z;omega
  intro k hk;rw[U k o_,aA o_];exact J.kw.kw k hk
 simp only[go_sem,b,g];by_cases hk:c.D=6
 ·simp only[go_sem,hk,b,g];by_cases m:c.K.length=2
  ·have⟨k,i,nm,ls,S⟩:=c;simp only[T.K,T.D]at m hk;subst hk
   match S,m with
   |[f,a],_=>
    have I:aO (.mk 6 i nm ls [f,a])=1+(aO f+(aO a+0)):=by simp only[aO,ba]
    have hf:=bI f;have y:bW (.ls ([f,a].map enc)) 5 (.I 0)=some (.vp (enc f)):=aR (ks:=[f,a]) (m:=0) bH rfl .i64;have E:bW (.ls ([f,a].map enc)) 5 (.I 1)=some (.vp (enc a)):=aR (ks:=[f,a]) (m:=1) bH rfl .i64;simp only[AV.eT,T.D,T.X,T.N,T.L,T.K,List.map_cons,List.map_nil]at y E g;have w:decide (((2:Nat):Int)=2)=true:=rfl;have⟨W,_,G,F,_,x,_⟩:=eY (enc f) o;have r:=(x h.z o_).trans g;have u:=bz r a;simp only[go_sem,T.K,w,b,s,g,E,G,r,y,u];have l:=J.sp;rw[fD,qv,P_ rfl,P_ rfl]at l;refine⟨_,o_,_,a,W,out++[f],rfl,rfl,q_ b,q_ p,k_,⟨aF _ _ _,?_,?_,?_,?_,?_,?_⟩⟩
    ·rw[aA o_,x _ o_];exact A
    ·rw[List.map_append];exact bP F (by rw[aE];exact e_ _) (λa q _=>aA o_)
    ·have:=J.kw.z;exact HK.set ⟨o_,λk hk=>(x k o_).trans (J.kw.kw k hk)⟩ _ o_
    ·rw[aE];omega
    ·refine⟨by rw[l.1];simp,l.2⟩
    simp only[H_,M_,List.length_nil];omega
  have:decide ((c.K.length:Int)=2)=false:=by simp;omega
  simp only[go_sem,this];exact d _ (q_ b) (q_ p) (q_ s) (λe=>m e.2)
 simp only[go_sem,hk];exact d _ (q_ b) (q_ p) (q_ s) (λe=>hk e.1)
def oK (c:CtV):List AV:=[.str c.N,.I c.type.D,.I c.type.X,.str c.type.N,.eL c.type.L,.eT c.type.K]
theorem AB (c:CtV):jb c=.agg (oK c):=rfl
@[go_sem] def encCt_len (c:CtV):(jb c).cells.length=6:=(rfl)
def iw (f:FnV):List AV:=[.str f.N,.I f.type.D,.I f.type.X,.str f.type.N,.eL f.type.L,.eT f.type.K,.I f.a,
 .I (lV f.tree),.I (fV f.tree).D,.I (fV f.tree).X,.str (fV f.tree).N,.eL (fV f.tree).L,.eT (fV f.tree).K,.I (eW f.tree),.ls ((cm f.tree).map nK)]
theorem AA (f:FnV):gk f=.agg (iw f):=rfl
@[go_sem] def encFn_len (f:FnV):(gk f).cells.length=15:=(rfl)
def aQ (d:DV):List AV:=[.I d.D,.str d.N,.I d.Q,.I d.type.D,.I d.type.X,.str d.type.N,.eL d.type.L,.eT d.type.K,
 .I d.v.D,.I d.v.X,.str d.v.N,.eL d.v.L,.eT d.v.K,.I d.f,.ls (d.C.map jb),.I d.rp,
 .I d.rt.D,.I d.rt.X,.str d.rt.N,.eL d.rt.L,.eT d.rt.K,.eT d.R,.ls (d.F.map gk)]
theorem bX (d:DV):gJ d=.agg (aQ d):=rfl
@[go_sem] def encD_len (d:DV):(gJ d).cells.length=23:=(rfl)
@[go_sem] def encD_agg:(∀d,(gJ d).isAgg=true)/\(∀c,(jb c).isAgg=true)/\∀f,(gk f).isAgg=true:=by
 and_intros<;>intros<;>rfl
def aY (e:EV):List AV:=[.I e.D,.I e.decl,.I e.item,.I e.Q,.I e.type.D,.I e.type.X,.str e.type.N,.eL e.type.L,.eT e.type.K]
theorem hG (e:EV):uN e=.agg (aY e):=rfl
def eA {v:AV}{sz:Nat}(b:v.isAgg=true)(a:v.cells.length=sz)(h:AH):cC (.vp v) h true sz=some v:=my true sz b a
def GS {d:Type}: ∀(a b:List d),b.length=a.length->over a b=a
 |[],[],_=>rfl
 |v::a,c::b,h=>by
  show v::over a b=_;rw[GS a b (by simpa using h)]
def aS {h:AH}{k sz:Nat}{a vs:List AV}(g:h.get k=some (.box a))(c:a.length=sz)(b:vs.length=sz):cY (.P k) h sz (.agg vs)=some (h.set k (.box vs)):=by
 rw[jF _ _ _ _ (Ho vs) b,g,aK,CO,qW _ _ _ o_,aK];show some (h.set k (.box (over vs a)))=_;rw[GS _ _ o_]
structure HW (W:List Nat)(h h':AH):Prop where
 z:h.z<=h'.z
 kw:∀k,k<h.z->k ∉ W->h'.get k=h.get k
section
variable {W:List Nat}{h h' h'':AH}
theorem HW.refl (h:AH):HW W h h:=⟨e_ _,λ_ _ _=>rfl⟩
theorem HW.trans (x:HW W h h')(y:HW W h' h''):HW W h h'':=⟨C_ x.z y.z,λk a b=>(y.kw k (B_ a x.z) b).trans (x.kw k a b)⟩
theorem HK.w (x:HK h h'):HW W h h':=⟨x.z,λk a _=>x.kw k a⟩
theorem HW.gu (x:HW W h h'){k:Nat}{o:dF}(g:h.get k=some o)(hk:k<h.z)(a:k ∉ W):h'.get k=some o:=(x.kw k hk a).trans g
theorem HW.tk (x:HW W h h')(y:HK h' h''):HW W h h'':=x.trans y.w
theorem HK.tw (x:HK h h')(y:HW W h' h''):HW W h h'':=x.w.trans y
attribute [grind ->] HW.z HW.trans HW.tk HK.tw
attribute [grind =>] HW.gu
end
structure Yd (K:aN)(l:Nat)(nm:ByteArray)(W:List Nat)(Y:AH->Prop)(D:EV->AH->Prop):Prop where
 up:∀h h',Y h->HK h h'->Y h'
 run:∀s e h,Y h->∃b h',cS K (.yld l) [.str s,.agg (aY e)] .no h=some (.ret (.bool b),.no,h')/\HW W h h'/\((s=nm/\b=false/\D e h')\/(s≠nm/\b=true/\Y h'))
def Ld (Y:AH->Prop)(D:EV->AH->Prop)(o:Option EV)(h:AH):Prop:=match o with
 |some e=>D e h
 |none=>Y h
@[go_sem] def cells_len:(∀d,(aQ d).length=23)/\(∀c,(oK c).length=6)/\(∀f,(iw f).length=15)/\∀e,(aY e).length=9:=by
 and_intros<;>intros<;>rfl
@[go_sem] def faddr_r:(∀c,cy (.vp (jb c)) 0 1 false=some (.vp (.str c.N)))/\(∀c,cy (.vp (jb c)) 1 5 true=some (.vp (.agg (aG c.type))))/\(∀f,cy (.vp (gk f)) 0 1 false=some (.vp (.str f.N)))/\
  (∀f,cy (.vp (gk f)) 1 5 true=some (.vp (.agg (aG f.type))))/\(∀f,cy (.vp (gk f)) 6 1 false=some (.vp (.I f.a)))/\∀f,cy (.vp (gk f)) 7 8 true=some (.vp (.agg (bc f.tree))):=by
 and_intros<;>intros<;>rfl
def Za (k:Int)(hk:k=0\/k=1\/k=2):bW (.clip [.I 0,.I 1,.I 2]) 1 (.I k)=some (.vp (.I k)):=by
 rcases hk with rfl|rfl|rfl<;>rfl
def Gu (a:ByteArray)(c:a.size<=100000):FE .add a (bs [46,114,101,99])=some (.str (BF a)):=by
 show cond (Nat.blt 9223372036854775807 (Nat.add a.size (bs [46,114,101,99]).size)) none (some (AV.str (a++bs [46,114,101,99])))=_;have e:Nat.blt 9223372036854775807 (Nat.add a.size (bs [46,114,101,99]).size)=false:=by
  have:(bs [46,114,101,99]).size=4:=rfl;rw[this];cases b:Nat.blt 9223372036854775807 (Nat.add a.size 4) with
  |false=>rfl
  |true=>have:=Nat.le_of_ble_eq_true b;replace this:9223372036854775807+1<=a.size+4:=this;omega
 rw[e];rfl
def c282 {K:aN}[RunsM K](d:DV)(a:Int)(h:AH):
  Rt K (178) [gJ d,.I a] h λv h'=>v=.fn (199) [] [.P (h.z+1),.P h.z]/\h'.z=h.z+2/\h'.get h.z=some (.box (aQ d))/\h'.get (h.z+1)=some (.box [.I a])/\HK h h':=by
 refine aV cf282 ?_;rw[bX];have n1:=aB h (.box (aQ d));have n2:=aB (h.new (.box (aQ d))) (.box [.I a]);have b:((h.new (.box (aQ d))).new (.box [.I a])).get h.z=some (.box (aQ d)):=by rw[aM o_,aD]
 have c:((h.new (.box (aQ d))).new (.box [.I a])).get (h.z+1)=some (.box [.I a]):=by rw[<-n1,aD]
 simp only[go_sem,n1];refine⟨rfl,rfl,.inr rfl,[.fn (199) [] [.P (h.z+1),.P h.z]],k_,_,_,cv_ (jd _ _ _ _),by simp[AV.norms,AV.norm],by rw[n2,n1],b,c,(HK.new _ _).add _⟩
def I302c (e:AH)(W:List Nat)(Y:AH->Prop)(d:DV)(a:Int)(nm:ByteArray)(c f l _g:Nat)(j:Nat)(b:AF)(h:AH):Prop:=∃tm p,p+j=d.C.length/\b=F_ 199 tm/\Y h/\HW W e h/\
 nth tm 0=.yld l/\nth tm 1=.P c/\nth tm 2=.P f/\nth tm 42=.ls (d.C.map jb)/\nth tm 43=.I (d.C.length:Int)/\nth tm 44=.I (p:Int)/\d.D=3/\
 eU nm (gY d a)=eU nm (rq d a (d.C.drop p) p++[(BF d.N,⟨5,a,0,d.rp,d.rt⟩)])
def I302f (e:AH)(W:List Nat)(Y:AH->Prop)(d:DV)(a:Int)(nm:ByteArray)(c f l _g:Nat)(j:Nat)(b:AF)(h:AH):Prop:=∃tm p,p+j=d.F.length/\b=F_ 199 tm/\Y h/\HW W e h/\
 nth tm 0=.yld l/\nth tm 1=.P c/\nth tm 2=.P f/\nth tm 78=.ls (d.F.map gk)/\nth tm 79=.I (d.F.length:Int)/\nth tm 80=.I (p:Int)/\
 eU nm (gY d a)=eU nm (sY d a (d.F.drop p) p)
theorem pY (nm:ByteArray)(s:ByteArray)(e:EV)(l:List (ByteArray×EV)):eU nm ((s,e)::l)=if s=nm then some e else eU nm l:=rfl
def vU {a:Type}{l:List a}{p:Nat}{x:a}(h:l[p]?=some x):l.drop p=x::l.drop (p+1):=by
 have⟨c,b⟩:=E_.1 h;rw[List.drop_eq_getElem_cons c,b]
def c302 {K:aN}[RunsM K]{l:Nat}{nm:ByteArray}{W:List Nat}{Y:AH->Prop}{D:EV->AH->Prop}(yd:Yd K l nm W Y D){d:DV}{a:Int}{pa pd:Nat}{h:AH}(hy:Y h)
  (ga:h.get pa=some (.box [.I a])) (gd:h.get pd=some (.box (aQ d))) (la:pa<h.z) (ld:pd<h.z) (wa:pa ∉ W) (wd:pd ∉ W) (_hW:∀k∈W,k<h.z)
  (hc:d.C.length<1000) (hf:d.F.length<1000) (hn:d.N.size<=100000) :
  ∃v h',cS K (.fn 199 [] [.P pa,.P pd]) [.yld l] .no h=some (.ret v,.no,h')/\v=.tup []/\HW W h h'/\Ld Y D (eU nm (gY d a)) h':=by
 refine zN cf302 ?_;have fin:∀(tm:Tm) (H:AH) (e:AEx),(e=.normal\/e=.ret)->HW W h H->Ld Y D (eU nm (gY d a)) H->Fin agG (λv' F=>v'=.tup []/\HW W h F/\Ld Y D (eU nm (gY d a)) F) e (F_ 199 tm) H:=
  λtm H e G hw hl=>⟨rfl,rfl,G,[],rfl,.tup [],H,bF (aH _),rfl,hw,hl⟩
 unfold aQ at gd;simp only[go_sem,ga,gd];have⟨H,hH,kk,_,gb⟩:=ns h (.box [.I 0,.I 0,.I 0,.I 0,.I 0,.I 0,.str (bs []),.nl,.nl]) (.box [.I 0,.I a,.I 0,.I d.Q,.I d.type.D,.I d.type.X,.str d.type.N,.eL d.type.L,.eT d.type.K]);rw[<-hH];clear hH;have ak:=(kk.kw _ la).trans ga;have n:=(kk.kw _ ld).trans gd;have yH:=yd.up _ _ hy kk;have C:∀(s:ByteArray) (e:EV) (H2:AH),Y H2->HW W h H2->∃b O,cS K (.yld l) [.str s,.agg (aY e)] .no H2=some (.ret (.bool b),.no,O)/\HW W h O/\((s=nm/\b=false/\D e O)\/(s≠nm/\b=true/\Y O)):=λs e H2 y w=>by
  have⟨b,O,e1,J,q⟩:=yd.run s e H2 y;exact⟨b,O,e1,w.trans J,q⟩
 have r:∀cs,HK h (H.set h.z (.box cs)):=λcs=>kk.set _ (e_ _);have P:∀o,(H.set h.z o).get pd=_:=λo=>(aA o_).trans n;by_cases hp:d.D=0\/d.D=1\/d.D=2
 ·have G:gY d a=[(d.N,⟨d.D,a,0,d.Q,d.type⟩)]:=P_ hp;have hi:=Za d.D hp;have⟨b,O,X,J,q⟩:=C d.N ⟨d.D,a,0,d.Q,d.type⟩ _ (yd.up _ _ hy (r _)) (r (aY ⟨d.D,a,0,d.Q,d.type⟩)).w;simp only[aY]at X;have hl:Ld Y D (eU nm (gY d a)) O:=by
   rw[G,pY];rcases q with⟨i,_,g⟩|⟨i,_,g⟩
   ·rw[P_ i];exact g
   rw[N_ i];exact g
  rcases hp with hk|hk|hk
  ·have M:=T_ hk;simp only[go_sem,n,M,hi,gb,P,X];exact fin _ _ _ (.inl rfl) J hl
  ·have M:decide (d.D=0)=false:=d_;have Z:=T_ hk;simp only[go_sem,n,M,Z,hi,gb,P,X];exact fin _ _ _ (.inl rfl) J hl
  have M:decide (d.D=0)=false:=d_;have Z:decide (d.D=1)=false:=d_;have d2:=T_ hk;simp only[go_sem,n,M,Z,d2,hi,gb,P,X];exact fin _ _ _ (.inl rfl) J hl
 have M:decide (d.D=0)=false:=d_;have Z:decide (d.D=1)=false:=d_;have d2:decide (d.D=2)=false:=d_;by_cases F:d.D=3
 ·have d3:=T_ F;have G:gY d a=(d.N,⟨3,a,0,d.Q,d.type⟩)::(rq d a d.C 0++[(BF d.N,⟨5,a,0,d.rp,d.rt⟩)]):=by unfold gY;rw[N_ hp,P_ F]
  have⟨b,_,X,J,q⟩:=C d.N ⟨3,a,0,d.Q,d.type⟩ _ (yd.up _ _ hy (r _)) (r (aY ⟨3,a,0,d.Q,d.type⟩)).w;simp only[aY]at X;have aj:=(J.kw _ ld wd).trans gd;simp only[go_sem,n,M,Z,d2,d3,gb,P,X];rcases q with⟨i,rfl,g⟩|⟨i,rfl,g⟩
  ·simp only[go_sem];refine fin _ _ _ (.inr rfl) J ?_;rw[G,pY,P_ i];exact g
  simp only[go_sem,aj];refine bo (I302c h W Y d a nm pa pd l h.z) d.C.length o_ ⟨_,0,o_,rfl,g,J,k_,k_,k_,k_,k_,y_,F,by rw[G,pY,N_ i];rfl⟩ ?_;rintro j fr H4 ⟨tm,p,z,rfl,y4,x,t0,t1,t2,ac,ab,U,_,m⟩;have I:=(x.kw _ la wa).trans ga;have N:=(x.kw _ ld wd).trans gd;have ah:=x.z;simp only[go_sem,ab,U];refine aU (λE=>?_) (λai=>?_)
  ·have E:p<d.C.length:=o_;have f:=a_ E;revert f;generalize d.C[p]=c;intro f;have ha:=aR encCt_len f .i64;have B:=λh=>eA (v:=jb c) (sz:=6) rfl rfl h;have t:=aS (h:=H4.new (.box [.str (bs []),.I 0,.I 0,.str (bs []),.nl,.nl])) (vs:=oK c) (sz:=6) (aD _ _) rfl rfl;rw[AB]at ha B;have⟨H5,A,L,_,g5⟩:=ns H4 (.box [.str (bs []),.I 0,.I 0,.str (bs []),.nl,.nl]) (.box (oK c));rw[<-A]at t;clear A;have T:=L.up I;have S:=L.up N;have V:=aP p o_;have⟨b,H6,Q,R,q6⟩:=C c.N ⟨4,a,p,d.Q,c.type⟩ H5 (yd.up _ _ y4 L) (x.trans L.w);simp only[aY]at Q;unfold oK at g5;simp only[go_sem,ac,U,ha,B,t,t0,t1,t2,g5,T,S,Q];have u:eU nm (gY d a)=if c.N=nm then some ⟨4,a,p,d.Q,c.type⟩ else eU nm (rq d a (d.C.drop (p+1)) (p+1)++[(BF d.N,⟨5,a,0,d.rp,d.rt⟩)]):=by
    rw[m,vU f];rfl
   rcases q6 with⟨i,rfl,g⟩|⟨i,rfl,g⟩
   ·simp only[go_sem];refine fin _ _ _ (.inr rfl) R ?_;rw[u,P_ i];exact g
   simp only[go_sem,U,V];exact⟨j-1,o_,_,p+1,o_,rfl,g,R,q_ t0,q_ t1,q_ t2,q_ ac,q_ ab,k_,F,by rw[u,N_ i]⟩
  have z:p=d.C.length:=o_;subst z;rw[List.drop_length]at m;have⟨b,H6,Q,R,q6⟩:=C (BF d.N) ⟨5,a,0,d.rp,d.rt⟩ H4 y4 x;simp only[aY]at Q;have ag:=Gu d.N hn;simp only[go_sem,t0,t1,t2,N,ag,I,Q];refine fin _ _ _ (.inl rfl) R ?_;rw[m];show Ld Y D (eU nm [(BF d.N,_)]) H6;rw[pY];rcases q6 with⟨i,_,g⟩|⟨i,_,g⟩
  ·rw[P_ i];exact g
  rw[N_ i];exact g
 have d3:=D_ F;by_cases h4:d.D=4
 ·have d4:=T_ h4;have G:gY d a=sY d a d.F 0:=by unfold gY;rw[N_ hp,N_ F,P_ h4]
  simp only[go_sem,n,M,Z,d2,d3,d4];refine bo (I302f h W Y d a nm pa pd l h.z) d.F.length o_ ⟨_,0,o_,rfl,yH,kk.w,k_,k_,k_,k_,k_,y_,by rw[G];rfl⟩ ?_;rintro j fr H4 ⟨tm,p,z,rfl,y4,x,t0,t1,t2,ad,af,aa,m⟩;have I:=(x.kw _ la wa).trans ga;have N:=(x.kw _ ld wd).trans gd;have ah:=x.z;simp only[go_sem,af,aa];refine aU (λE=>?_) (λai=>?_)
  ·have E:p<d.F.length:=o_;have f:=a_ E;revert f;generalize d.F[p]=c;intro f;have ha:=aR encFn_len f .i64;have B:=λh=>eA (v:=gk c) (sz:=15) rfl rfl h;have t:=aS (h:=H4.new (.box [.str (bs []),.I 0,.I 0,.str (bs []),.nl,.nl,.I 0,.I 0,.I 0,.I 0,.str (bs []),.nl,.nl,.I 0,.nl])) (vs:=iw c) (sz:=15) (aD _ _) rfl rfl;rw[AA]at ha B;have⟨H5,A,L,_,g5⟩:=ns H4 (.box [.str (bs []),.I 0,.I 0,.str (bs []),.nl,.nl,.I 0,.I 0,.I 0,.I 0,.str (bs []),.nl,.nl,.I 0,.nl]) (.box (iw c));rw[<-A]at t;clear A;have T:=L.up I;have S:=L.up N;have V:=aP p o_;have⟨_,_,Q,R,q6⟩:=C c.N ⟨6,a,p,d.Q,c.type⟩ H5 (yd.up _ _ y4 L) (x.trans L.w);simp only[aY]at Q;unfold iw at g5;simp only[go_sem,ad,aa,ha,B,t,t0,t1,t2,g5,T,S,Q];have u:eU nm (gY d a)=if c.N=nm then some ⟨6,a,p,d.Q,c.type⟩ else eU nm (sY d a (d.F.drop (p+1)) (p+1)):=by
    rw[m,vU f];rfl
   rcases q6 with⟨i,rfl,g⟩|⟨i,rfl,g⟩
   ·simp only[go_sem];refine fin _ _ _ (.inr rfl) R ?_;rw[u,P_ i];exact g
   simp only[go_sem,aa,V];exact⟨j-1,o_,_,p+1,o_,rfl,g,R,q_ t0,q_ t1,q_ t2,q_ ad,q_ af,k_,by rw[u,N_ i]⟩
  have z:p=d.F.length:=o_;subst z;rw[List.drop_length]at m;simp only[go_sem];refine fin _ _ _ (.inl rfl) x ?_;rw[m];exact y4
 have d4:=D_ h4;have G:gY d a=[]:=by unfold gY;rw[N_ hp,N_ F,N_ h4]
 simp only[go_sem,n,M,Z,d2,d3,d4];refine fin _ _ _ (.inl rfl) kk.w ?_;rw[G];exact yH
def Ud {call:aN}{n:Nat}{k:List It}{Q:AEx->AF->AH->Prop}{f:AX}{m:List Nat}{l b:bu}{tm:Tm}{ds:List DF}{g:RC}{a:FuncId}{h j:AH}{v:AV}{o:RC}{st:LoopState}{e:Tm}{d:List Nat}{i r:bu}{c:FuncId}{ex:AEx}(p q:Nat)(x:h.z=p)(t:p+1=q)
  (s:call (ev f tm) [.yld q] .no ((h.new (.dfd false)).new (.loop .ready none tm m l b a))=some (.ret v,o,j)) (u:j.get q=some (.loop st (some ex) e d i r c)) (y:xU st=false)
  (w:R call n k Q ex ⟨tm,⟨.mark p::ds,g,none,a⟩⟩ (j.set q (.loop .exhausted (some ex) e d i r c))) :
  R call n (.code (.rangeFunc f m l b)::k) Q .normal ⟨tm,⟨ds,g,none,a⟩⟩ h:=by
 subst x t;show WP (aI (uR ⟨tm,⟨ds,g,none,a⟩⟩ m l b h) λp=>aI (call (ev f tm) [.yld p.1] .no p.2.2) λq=>Ao q.1 (BC p.2.1 ⟨tm,⟨ds,g,none,a⟩⟩) p.1 q.2.2) (R call n k Q);have z:uR ⟨tm,⟨ds,g,none,a⟩⟩ m l b h=some (h.z+1,[.mark h.z],(h.new (.dfd false)).new (.loop .ready none tm m l b a)):=rfl;rw[z,aK];simp only[s,aK];show WP (tD ⟨tm,⟨.mark h.z::ds,g,none,a⟩⟩ (h.z+1) j) _;unfold tD;rw[u,aK];show WP (cond (xU st) none (some (ex,⟨tm,⟨.mark h.z::ds,g,none,a⟩⟩,j.set (h.z+1) (.loop .exhausted (some ex) e d i r c)))) _;rw[y];exact hJ.2 w
def ac1 {call:aN}{n l:Nat}{args:List AV}{h:AH}{st:LoopState}{pend:Option AEx}{tm:Tm}{i:List Nat}{o b:bu}{f:FuncId}{P:Bool->AH->Prop}(s:h.get l=some (.loop st pend tm i o b f))(c:args.length=i.length)
  (u:R call n [.code o] (λe d k=>e=.normal/\∃j,rF k l=some j/\R call n [.code b] (λq a m=>a.cx.dfs=[]/\∃t g,aan q l m=some (.ret (.bool t),.no,g)/\P t g) .normal d j) .normal ⟨qS i args tm,⟨[],.no,some l,f⟩⟩ h) :
  ∃t p,AQ call n l args h=some (.ret (.bool t),.no,p)/\P t p:=by
 obtain⟨_,_,k,z,rfl,_,v,_,a,_,x,w,t,g,y,r⟩:=u;refine⟨t,g,?_,r⟩;unfold AQ;rw[s,aK];show cond (Nat.beq (len args) (len i)) _ _=_;rw[bT,bT,c,fR,cond_true];unfold DD;rw[z,aK];show aI (rF k l) _=_;rw[v,aK,x,aK];show cond (acK a.cx.dfs) _ _=_;rw[w];exact y
def yW {call:aN}{m:Md}: ∀(l:List Nat) (h:AH),l.Nodup->(∀k∈l,h.get k=some (.dfd false))->∃b,ou (l.map .mark) call m h=some (m,b)/\b.z=h.z/\∀k,k ∉ l->b.get k=h.get k
 |[],h,_,_=>⟨h,rfl,rfl,λ_ _=>rfl⟩
 |k::l,h,c,d=>by
  rw[List.nodup_cons]at c;have⟨b,e,n,g⟩:=yW (call:=call) (m:=m) l (h.set k (.dfd true)) c.2 (λj a=>by rw[aA (by rintro rfl;exact c.1 a)];exact d j (by simp[a]));refine⟨b,?_,by rw[n,aE],λj a=>?_⟩
  ·show aI (aI (h.get k) λo=>aI (abA o) λt=>cond t none (some (m,h.set k (.dfd true)))) (λp=>ou (l.map .mark) call p.1 p.2)=_;rw[d k (by simp)];exact e
  simp only[X_,not_or]at a;rw[g j a.2,aA a.1]
def zE:List AV:=[.I 0,.I 0,.I 0,.I 0,.I 0,.I 0,.str (bs []),.nl,.nl]
def zD:List AV:=[.I 0,.str (bs []),.I 0,.I 0,.I 0,.str (bs []),.nl,.nl,.I 0,.I 0,.str (bs []),.nl,.nl,.I 0,.nl,.I 0,.I 0,.I 0,.str (bs []),.nl,.nl,.nl,.nl]
structure acW (tm:Tm)(nm:ByteArray)(b q:Nat)(h:AH):Prop where
 gq:h.get q=some (.loop .ready none tm [20,21] oz oy (142))
 g3:h.get b=some (.box [.str nm])
 g4:h.get (b+1)=some (.box zE)
 g5:h.get (b+2)=some (.box [.I 0])
 lt:b+3<=q/\q<h.z
structure agX (tm:Tm)(nm:ByteArray)(b q:Nat)(e:EV)(h:AH):Prop where
 gq:h.get q=some (.loop .done (some .ret) tm [20,21] oz oy (142))
 g4:h.get (b+1)=some (.box (aY e))
 g5:h.get (b+2)=some (.box [.I 0])
@[go_sem] theorem bneq_str (a b:ByteArray):(a==b)=decide (a=b):=by
 have c:(a==b)=(a.data==b.data):=rfl;rw[c];by_cases h:a=b
 ·subst h;simp
 have:a.data≠b.data:=λq=>h (by cases a;cases b;simp_all);simp[h,this]
def y257 {K:aN}[J:RunsM K]{tm:Tm}{nm:ByteArray}{b q:Nat}(G:nth tm 3=.P b)(D:nth tm 4=.P (b+1))(I:nth tm 5=.P (b+2)):
  Yd K q nm [q,b+1,b+2] (acW tm nm b q) (agX tm nm b q) where
 up h i y k:=by
  have:=y.lt;exact⟨k.up y.gq,k.up y.g3,k.up y.g4,k.up y.g5,this.1,B_ this.2 k.z⟩
 run s e h y:=by
  have lt:=y.lt;have E:jB [.str s,.agg (aY e)] h=([.str s,.agg (aY e)],h):=ae (rX _ _) (ae (by have:=JT e h;rw[hG]at this;exact this) (aH _));have p:=ac1 (call:=cS K) (n:=1000000000000) (args:=[.str s,.agg (aY e)]) (P:=λt i=>HW [q,b+1,b+2] h i/\((s=nm/\t=false/\agX tm nm b q e i)\/(s≠nm/\t=true/\acW tm nm b q i))) y.gq rfl ?_
  ·have⟨t,i,F,H,M⟩:=p;refine⟨t,i,?_,H,M⟩;exact nS ((Yq (A:=cS K) E (J.yld _ _ _ _)).trans (by rw[F];exact rR (cv_ (bp _ _))))
  have g:=aS (h:=h.new (.box zE)) (vs:=aY e) (sz:=9) (aD _ _) rfl rfl;unfold zE at g;have⟨A,j,n,n1,L⟩:=ns h (.box [.I 0,.I 0,.I 0,.I 0,.I 0,.I 0,.str (bs []),.nl,.nl]) (.box (aY e));rw[<-j]at g;clear j;unfold oz;simp only[go_sem,g];refine⟨_,ES (n.up y.gq),?_⟩;have⟨c,a⟩:∃c:AH,c=A.set q (.loop .busy none tm [20,21] oz oy (142)):=⟨_,rfl⟩;rw[<-a];have m:∀k,k≠q->c.get k=A.get k:=λk hk=>by rw[a,aA hk]
  have l:c.get q=some (.loop .busy none tm [20,21] oz oy (142)):=by rw[a,aF]
  have n2:c.z=h.z+1:=by rw[a,aE,n1]
  clear a;have B:=((m b o_).trans (n.kw _ o_)).trans y.g3;have x:=((m (b+1) o_).trans (n.kw _ o_)).trans y.g4;have z:=((m (b+2) o_).trans (n.kw _ o_)).trans y.g5;have v:=(m h.z o_).trans L;have f:∀k,k<h.z->k≠q->c.get k=h.get k:=λk hk C=>(m k C).trans (n.kw k hk);have w:cC (.P h.z) c true 9=some (.agg (aY e)):=by
   rw[fE,v,aK,fh,lv _ _ _ (by show 0+9<=9;omega)];rfl
  unfold oy;simp only[go_sem,G,B];by_cases hs:s=nm
  ·have r:=aS (vs:=aY e) (sz:=9) x rfl rfl;have u:=T_ hs;have o:(c.set (b+1) (.box (aY e))).get (b+2)=some (.box [.I 0]):=by rw[aA o_];exact z
   simp only[go_sem,u,w,D,r,I,o];refine⟨false,((c.set (b+1) (.box (aY e))).set (b+2) (.box [.I 0])).set q (.loop .done (some .ret) tm [20,21] oz oy (142)),?_,?_,.inl ⟨hs,rfl,?_⟩⟩
   ·show xR false (pL _ q .done (some .ret))=_;rw[BI (by rw[aA o_,aA o_];exact l)];rfl
   ·refine⟨by rw[aE,aE,aE,n2];omega,λk hk d=>?_⟩;simp only[X_,List.not_mem_nil,or_false,not_or]at d;rw[aA d.1,aA d.2.2,aA d.2.1];exact f k hk d.1
   exact⟨aF _ _ _,by rw[aA o_,aA o_,aF],by rw[aA o_,aF]⟩
  have u:=D_ hs;simp only[go_sem,u];refine⟨true,c.set q (.loop .ready none tm [20,21] oz oy (142)),?_,?_,.inr ⟨hs,rfl,?_⟩⟩
  ·show xR true (pL _ q .ready none)=_;rw[BI l];rfl
  ·refine⟨by rw[aE,n2];omega,λk hk d=>?_⟩;simp only[X_,List.not_mem_nil,or_false,not_or]at d;rw[aA d.1];exact f k hk d.1
  exact⟨aF _ _ _,by rw[aA o_];exact B,by rw[aA o_];exact x,by rw[aA o_];exact z,lt.1,by rw[aE,n2];omega⟩
def xJ (o:Option EV):AV:=match o with
 |some e=>.tup [uN e,.I 0]
 |none=>.tup [.agg [.I 0,.I 0,.I 0,.I 0,.I 0,.I 0,.str (bs []),.ls [],.ls []],.I 9]
structure aal (env:List DV)(nm:ByteArray)(h0:AH)(ds:List Nat)(p:Nat)(h:AH):Prop where
 kw:HK h0 h
 nx:h0.z+3<=h.z
 g3:h.get h0.z=some (.box [.str nm])
 g4:h.get (h0.z+1)=some (.box zE)
 g5:h.get (h0.z+2)=some (.box [.I 0])
 nd:ds.Nodup
 mks:∀k∈ds,h0.z+3<=k/\k<h.z/\h.get k=some (.dfd false)
 fd:fG nm env 0=fG nm (env.drop p) p
def aal.up {d:List DV}{nm:ByteArray}{f h e:AH}{ds:List Nat}{p:Nat}(J:aal d nm f ds p h)(k:HK h e):aal d nm f ds p e:=by
 have nx:=J.nx;exact⟨J.kw.trans k,C_ nx k.z,k.up J.g3,k.up J.g4,k.up J.g5,J.nd,λj g=>by
  have⟨a,b,c⟩:=J.mks j g;exact⟨a,B_ b k.z,(k.kw _ b).trans c⟩,J.fd⟩
def I257 (a:List DV)(nm:ByteArray)(b:AH)(j:Nat)(c:AF)(h:AH):Prop:=∃tm p ds,p+j=a.length/\c=⟨tm,⟨ds.map .mark,.no,none,142⟩⟩/\aal a nm b ds p h/\
 nth tm 0=.eD a/\nth tm 3=.P b.z/\nth tm 4=.P (b.z+1)/\nth tm 5=.P (b.z+2)/\nth tm 10=.eD a/\nth tm 11=.I (a.length:Int)/\nth tm 12=.I (p:Int)
structure DS (d:DV):Prop where
 C:d.C.length<1000
 F:d.F.length<1000
 N:d.N.size<=100000
def c257 {K:aN}[hK:RunsM K](a:List DV)(nm:ByteArray)(h:AH)(hd:∀d∈a,DS d)(hl:a.length<1000):
  Ret K (142) [.eD a,.str nm] h λv _=>v=xJ (fG nm a 0):=by
 have G:=λhR=>(lW) [] [.eD a,.str nm] _ .no h h _ _ _ (λo z t=>z=.no/\o=.ret (xJ (fG nm a 0))/\HK h t) cf257 (ae (uT _ _) (ae (rX _ _) (aH _))) hR;suffices hR:R_ K [.code agT] (XQ (cS K) Ra (mD λo z t=>z=.no/\o=.ret (xJ (fG nm a 0))/\HK h t)) .normal ⟨cU ([.eD a,.str nm]++[]),⟨[],.no,none,142⟩⟩ h by
  obtain⟨o,z,t,e,rfl,rfl,k⟩:=G hR;exact⟨_,t,e,rfl,k⟩
 clear G;have n1:=aB h (.box [.str nm]);have n2:=aB (h.new (.box [.str nm])) (.box zE);have n3:=aB ((h.new (.box [.str nm])).new (.box zE)) (.box [.I 0]);obtain⟨H,w⟩:∃H:AH,H=((h.new (.box [.str nm])).new (.box zE)).new (.box [.I 0]):=⟨_,rfl⟩;have J0:aal a nm h [] 0 H:=by
  refine⟨by rw[w];exact((HK.new _ _).add _).add _,by rw[w];omega,?_,?_,?_,List.nodup_nil,(λk hk=>by cases hk),rfl⟩
  ·rw[w,aM o_,aM o_,aD]
  ·rw[w,aM o_,<-n1,aD]
  have e2:h.z+2=((h.new (.box [.str nm])).new (.box zE)).z:=o_;rw[w,e2,aD]
 unfold zE at w n2;unfold agT;simp only[go_sem,n1,n2];rw[<-w];clear w;refine bo (I257 a nm h) a.length o_ ⟨_,0,[],o_,rfl,J0,k_,k_,k_,k_,k_,k_,y_⟩ ?_;clear J0;rintro j fr H1 ⟨tm,p,ds,hp,rfl,J,t0,M,r,s,m,q,i⟩;simp only[go_sem,q,i];have nx:=J.nx;have fin:∀(tm:Tm) (ds:List Nat) (f:AH) (e:AEx) (y:List AV) (x:Int),(e=.normal\/e=.ret)->nth tm 4=.P (h.z+1)->nth tm 5=.P (h.z+2)->ds.Nodup->(∀k∈ds,h.z+3<=k/\f.get k=some (.dfd false))->HK h f->f.get (h.z+1)=some (.box y)->y.length=9->f.get (h.z+2)=some (.box [.I x])->
   (∀H,mT (.tup [.agg y,.I x]) H=(xJ (fG nm a 0),H))->
   XQ (cS K) Ra (mD λo z t=>z=.no/\o=.ret (xJ (fG nm a 0))/\HK h t) e ⟨tm,⟨ds.map .mark,.no,none,142⟩⟩ f:=by
  intro tm ds f e y x he r s ah u kk g4 ao g5 V;obtain⟨b,e3,n3,Y⟩:=yW (call:=cS K) (m:=.returning) ds f ah (λk hk=>(u k hk).2);have ag:=(Y (h.z+1) (λhk=>by have:=(u _ hk).1;omega)).trans g4;have al:=(Y (h.z+2) (λhk=>by have:=(u _ hk).1;omega)).trans g5;have hg:xG true 9 0 y=some (.agg y):=by
   rw[lv _ _ _ o_,List.drop_zero,l_ o_]
  have am:fH Ra tm b=some [.agg y,.I x]:=by
   unfold Ra;rw[jv,jv,mQ,r,s,fE,fE,ag,al,aK,aK,fh,fh,hg,aK];rfl
  refine⟨?_,.returning,b,?_,[.agg y,.I x],am,_,b,V b,rfl,rfl,?_⟩
  ·rcases he with rfl|rfl<;>intro id e<;>cases e
  ·rcases he with rfl|rfl<;>exact e3
  exact⟨by rw[n3];exact kk.z,λk hk=>(Y k (λhm=>by have:=(u _ hm).1;omega)).trans (kk.kw k hk)⟩
 refine aU (λX=>?_) (λap=>?_)
 ·have X:p<a.length:=o_;have c:=a_ X;have n:=m_ c;revert c n;generalize a[p]=d;intro c n;have E:=hd d n;have ha:=aR encD_len c .i64;have W:=λh=>eA (v:=gJ d) (sz:=23) rfl rfl h;have A:=aS (h:=H1.new (.box zD)) (vs:=aQ d) (sz:=23) (aD _ _) rfl rfl;rw[bX]at ha W;obtain⟨f,Z,k2,aq,g2⟩:=ns H1 (.box zD) (.box (aQ d));rw[<-Z]at A;clear Z;have ab:cC (.P H1.z) f true 23=some (.agg (aQ d)):=by
   rw[fE,g2,aK,fh,lv _ _ _ (by show 0+23<=23;omega)];rfl
  obtain⟨v3,b,e3,rfl,ar,aj,af,Y⟩:=c282 d (p:Int) f;rw[bX]at e3;unfold zD at A;have ak:=aP p o_;simp only[go_sem,m,i,ha,W,A,ab,e3];have F:=(J.up k2).up Y;have ac:=F.nx;suffices ad:∀T:Tm,nth T 0=.eD a->nth T 3=.P h.z->nth T 4=.P (h.z+1)->nth T 5=.P (h.z+2)->nth T 10=.eD a->nth T 11=.I (a.length:Int)->nth T 12=.I (p:Int)->nth T 19=.fn (199) [] [.P (f.z+1),.P f.z]->
    R_ K [.code (.rangeFunc (.t 19) [20,21] oz oy),.out 2,.out 1,.code (.region [⟨some 26,.bin .add .num (.t 12) (.c (.I 1)),none⟩,⟨some 12,.mv (.t 26),none⟩])]
     (LQ (cS K) 1000000000000 (I257 a nm h) j [.out 0,.code Kk] (XQ (cS K) Ra (mD λo z t=>z=.no/\o=.ret (xJ (fG nm a 0))/\HK h t))) .normal ⟨T,⟨ds.map .mark,.no,none,142⟩⟩ b by
   exact ad _ (q_ t0) (q_ M) (q_ r) (q_ s) (q_ m) (q_ q) (q_ i) k_
  clear t0 M r s m q i;intro T t0 M r s m q i L;have kH:=F.kw;obtain⟨D,l⟩:∃D:AH,D=(b.new (.dfd false)).new (.loop .ready none T [20,21] oz oy (142)):=⟨_,rfl⟩;have n4:=aB b (.dfd false);have ny:D.z=b.z+2:=by rw[l,aB,n4]
  have ky:HK b D:=by rw[l];exact(HK.new _ _).add _
  have gm:D.get b.z=some (.dfd false):=by rw[l,aM o_,aD]
  have gq:D.get (b.z+1)=some (.loop .ready none T [20,21] oz oy (142)):=by rw[l,<-n4,aD]
  have J4:=F.up ky;have hY:acW T nm h.z (b.z+1) D:=⟨gq,J4.g3,J4.g4,J4.g5,o_,o_⟩;obtain⟨v,P,e5,rfl,w5,g⟩:=c302 (y257 M r s) hY (d:=d) (a:=(p:Int)) (pa:=f.z+1) (pd:=f.z) (ky.up af) (ky.up aj) o_ o_ (by simp;omega) (by simp;omega) (by intro k hk;simp at hk;omega) E.C E.F E.N;have an:=w5.z;have C:fG nm a 0=match eU nm (gY d p) with|some e=>some e|none=>fG nm (a.drop (p+1)) (p+1):=by
   rw[J.fd,vU c,fG]<;>cases eU nm (gY d p)<;>rfl
  have B:∀o,∀k∈b.z::ds,h.z+3<=k/\k<P.z/\(P.set (b.z+1) o).get k=some (.dfd false):=by
   intro o k hk;rcases X_.1 hk with rfl|hk
   ·exact⟨ac,o_,by rw[aA o_,w5.kw _ o_ (by simp;omega)];exact gm⟩
   obtain⟨O,q2,N⟩:=J4.mks k hk;have q4:=(F.mks k hk).2.1;exact⟨O,o_,by rw[aA o_,w5.kw _ o_ (by simp;omega)];exact N⟩
  have Q:(b.z::ds).Nodup:=by
   rw[List.nodup_cons];exact⟨λhm=>by have:=(F.mks _ hm).2.1;omega,J.nd⟩
  have k6:∀o,HK h (P.set (b.z+1) o):=λo=>⟨by rw[aE];have:=kH.z;omega,λk hk=>by
   rw[aA o_,w5.kw _ o_ (by simp;omega),ky.kw _ o_];exact kH.kw k hk⟩
  cases S:eU nm (gY d p) with
  |none=>
   rw[S]at g C;have g:=g;refine Jv b.z (b.z+1) rfl rfl (by rw[<-l];simp only[go_sem,L];exact e5) g.gq rfl ?_;have aa:=ak;simp only[go_sem,i,aa];refine⟨j-1,o_,_,p+1,b.z::ds,o_,rfl,⟨k6 _,by rw[aE];omega,by rw[aA o_];exact g.g3,by rw[aA o_];exact g.g4,by rw[aA o_];exact g.g5,Q,λk hk=>?_,C⟩,q_ t0,q_ M,q_ r,q_ s,q_ m,q_ q,k_⟩;obtain⟨O,q2,N⟩:=B _ k hk;exact⟨O,by rw[aE];exact q2,N⟩
  |some e=>
   rw[S]at g C;have g:=g;refine Ud b.z (b.z+1) rfl rfl (by rw[<-l];simp only[go_sem,L];exact e5) g.gq rfl ?_;simp only[go_sem];refine fin _ (b.z::ds) _ _ (aY e) 0 (.inr rfl) (q_ r) (q_ s) Q (λk hk=>⟨(B (.dfd true) k hk).1,(B _ k hk).2.2⟩) (k6 _) (by rw[aA o_];exact g.g4) rfl (by rw[aA o_];exact g.g5) λH=>?_;rw[C];exact bF (ae (by have:=JT e H;rw[hG]at this ⊢;exact this) (ae (aL _ _ _) (aH _)))
 have ai:p=a.length:=o_;subst ai;have C:=J.fd;rw[List.drop_length]at C;have g4:=J.g4;have g5:=J.g5;have U:=aS (vs:=zE) (sz:=9) g4 rfl rfl;have I:(H1.set (h.z+1) (.box zE)).get (h.z+2)=some (.box [.I 0]):=by rw[aA o_];exact g5
 unfold zE at U I;simp only[go_sem,Kk,r,s,U,I];refine fin _ ds _ _ zE 9 (.inr rfl) (q_ r) (q_ s) J.nd (λk hk=>?_) ?_ (by rw[aA o_,aF];rfl) rfl (by rw[aF]) λH=>?_
 ·obtain⟨O,q2,N⟩:=J.mks k hk;exact⟨O,by rw[aA o_,aA o_];exact N⟩
 ·exact(J.kw.set _ o_).set _ o_
 rw[C];refine bF (ae ?_ (ae (aL _ _ _) (aH _)));rw[bQ (by simp[zE,AV.free,AV.frees])];simp[zE,AV.norm,AV.norms]
def zDl:List AV:=[.I 0,.str (bs []),.I 0,.I 0,.I 0,.str (bs []),.ls [],.ls [],.I 0,.I 0,.str (bs []),.ls [],.ls [],.I 0,.ls [],.I 0,.I 0,.I 0,.str (bs []),.ls [],.ls [],.ls [],.ls []]
def aag:AV:=.tup [.agg zDl,.I 0,.bool false]
def rY (a:List DV)(nm:ByteArray):AV:=match fG nm a 0 with
 |none=>aag
 |some e=>match a[e.decl.toNat]? with
  |none=>aag
  |some d=>if e.D=3 then .tup [gJ d,.I (-1),.bool true] else if e.D=4 then .tup [gJ d,.I e.item,.bool true] else if e.D=5 then .tup [gJ d,.I (-2),.bool true] else aag
def ox (h:AH):cw (.agg zD) h=(.agg zDl,h):=by
 rw[bQ (by simp[zD,AV.free,AV.frees])];simp[zD,zDl,AV.norm,AV.norms]
def cE {h:AH}{k sz:Nat}{cs:List AV}(g:h.get k=some (.box cs))(a:cs.length=sz):cC (.P k) h true sz=some (.agg cs):=by
 rw[fE,g,aK,fh,lv _ _ _ o_,List.drop_zero,l_ o_]
theorem qh (e:EV):xJ (some e)=.tup [uN e,.I 0]:=rfl
theorem qj:xJ none=.tup [.agg [.I 0,.I 0,.I 0,.I 0,.I 0,.I 0,.str (bs []),.ls [],.ls []],.I 9]:=rfl
def c324 {K:aN}[RunsM K](a:List DV)(nm:ByteArray)(h:AH)(hd:∀d∈a,DS d)(hl:a.length<1000):
  Ret K (182) [.eD a,.str nm] h λv _=>v=rY a nm:=by
 refine aV cf324 ?_;have⟨H,U,k1,_,g4⟩:=nw h (.box zD);unfold zD at U;simp only[go_sem];rw[<-U];clear U;obtain⟨v,C,B,rfl,X⟩:=c257 a nm H hd hl;have D:=X.up g4;have n2:=X.z;have G:=k1.trans X;have fin:∀(tm:Tm) (q:AH) (e:AEx) (M:List AV) (j:Int) (b:Bool) (r:AV),(e=.normal\/e=.ret)->nth tm 4=.P h.z->nth tm 5=.I j->nth tm 6=.bool b->HK h q->q.get h.z=some (.box M)->M.length=23->cw (.agg M) q=(r,q)->rY a nm=.tup [r,.I j,.bool b]->
   Fin acE (λv' l=>v'=rY a nm/\HK h l) e (F_ 182 tm) q:=by
  intro tm q e M j b r he t4 t5 t6 kk g W J hf;refine⟨rfl,rfl,he,[.agg M,.I j,.bool b],?_,_,q,bF (ae J (ae (aL _ _ _) (ae (bp _ _) (aH _)))),hf.symm,kk⟩;unfold acE;rw[jv,jP,jP,mQ,t4,t5,t6,cE g W];rfl
 cases m:fG nm a 0 with
 |none=>
  rw[m]at B;have i:=aS (k:=h.z) (h:=(C.new (.box zE)).set C.z (.box [.I 0,.I 0,.I 0,.I 0,.I 0,.I 0,.str (bs []),.ls [],.ls []])) (vs:=zD) (sz:=23) (by rw[aA o_,aM o_];exact D) rfl rfl;rw[qj]at B;unfold zD zE at i;simp only[go_sem,B,i];refine fin _ _ _ zD 0 false _ (.inr rfl) k_ k_ k_ ?_ (by rw[aF];rfl) rfl (ox _) (by unfold rY;rw[m];rfl);exact((G.add _).set (j:=C.z) _ o_).set (j:=h.z) _ (e_ _)
 |some e=>
  have ent:=jm a a 0 e (λj=>by rw[z_]) m;have L:∃n d,e.decl=(n:Nat)/\a[n]?=some d/\(e.D=0\/e.D=1\/e.D=2\/e.D=3\/e.D=4\/e.D=5\/e.D=6):=by
   cases ent with
   |plain k n d p t z T l=>exact⟨n,d,rfl,z,by simp only;omega⟩
   |ctor n j d c p z T l=>exact⟨n,d,rfl,z,by simp⟩
   |rcr n d p t z T=>exact⟨n,d,rfl,z,by simp⟩
   |fn n j d f p z T l=>exact⟨n,d,rfl,z,by simp⟩
  have⟨_,d,Y,w,_⟩:=L;have s:rY a nm=if e.D=3 then .tup [gJ d,.I (-1),.bool true] else if e.D=4 then .tup [gJ d,.I e.item,.bool true] else if e.D=5 then .tup [gJ d,.I (-2),.bool true] else aag:=by
   unfold rY;rw[m];simp only;rw[Y,G_,w]
  rw[m]at B;have R:=aR encD_len w .i64;have u:=λh=>eA (v:=gJ d) (sz:=23) rfl rfl h;have x:=aS (h:=C.new (.box zE)) (vs:=aY e) (sz:=9) (aD _ _) rfl rfl;have⟨q,N,Z,_,y⟩:=ns C (.box zE) (.box (aY e));rw[<-N]at x;clear N;have I:=Z.up D;have i:=aS (vs:=aQ d) (sz:=23) I rfl rfl;have F:=aS (vs:=zD) (sz:=23) I rfl rfl;have A:∀o,(q.set h.z o).get C.z=some (.box (aY e)):=λo=>by rw[aA o_];exact y
  have P:∀o,HK h (q.set h.z o):=λo=>(G.trans Z).set _ (e_ _);rw[bX]at R u;rw[qh,hG]at B;unfold zE at x;unfold zD at F;unfold aY at y A;rw[Y]at y A;simp only[go_sem,B,x,y];by_cases l:e.D=3
  ·have O:=T_ l;simp only[go_sem,O,y,R,u,i];exact fin _ _ _ (aQ d) (-1) true _ (.inr rfl) k_ k_ k_ (P _) (aF _ _ _) rfl (by rw[<-bX];exact xM d _) (by rw[s,P_ l])
  have O:=D_ l;by_cases E:e.D=4
  ·have Q:=T_ E;simp only[go_sem,O,Q,y,A,R,u,i];exact fin _ _ _ (aQ d) e.item true _ (.inr rfl) k_ k_ k_ (P _) (aF _ _ _) rfl (by rw[<-bX];exact xM d _) (by rw[s,N_ l,P_ E])
  have Q:=D_ E;by_cases S:e.D=5
  ·have V:=T_ S;simp only[go_sem,O,Q,V,y,R,u,i];exact fin _ _ _ (aQ d) (-2) true _ (.inr rfl) k_ k_ k_ (P _) (aF _ _ _) rfl (by rw[<-bX];exact xM d _) (by rw[s,N_ l,N_ E,P_ S])
  have V:=D_ S;simp only[go_sem,O,Q,V,F];exact fin _ _ _ zD 0 false _ (.inr rfl) k_ k_ k_ (P _) (by rw[aF];rfl) rfl (ox _) (by rw[s,N_ l,N_ E,N_ S];rfl)
