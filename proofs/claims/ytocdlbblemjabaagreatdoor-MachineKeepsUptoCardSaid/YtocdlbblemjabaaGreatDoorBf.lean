/- MachineKeeps: constants, branches, clones (no condition). -/
import Derived.Test.YtocdlbblemjabaaGreatDoorBe
namespace Go.Proofs.YtocdlbblemjabaaGreatDoor
open Go.AG Go.AG.MK
def zEl:List AV:=[i_ 0,i_ 0,i_ 0,i_ 0,i_ 0,i_ 0,.str (bs []),.ls [],.ls []]
def TY (env:List DV)(n:NV):AV:=if n.kind=3 then
  match iy n.name env 0 with
  |some e=>.tup [.agg (bo e),.bool (decide (e.params=(n.L.length:Int)))]
  |none=>.tup [.agg zEl,.bool false]
 else .tup [.agg zEl,.bool false]
theorem wT (b:Bool):AV.beq (.bool b) (.bool b)=true:=by cases b<;>rfl
theorem lW (s:ByteArray):AV.beq (.str s) (.str s)=true:=by simp[AV.beq,db]
theorem Zj (h:AH):cE (.agg zE) h=(.agg zEl,h):=by
 rw[bG (by simp[zE,AV.free,AV.ale])];simp[zE,zEl,AV.norm,AV.ald]
theorem ac6 (h:AH):cE (.agg zEl) h=(.agg zEl,h):=by
 rw[bG (by simp[zEl,AV.free,AV.ale])];simp[zEl,AV.norm,AV.ald]
theorem akb (e:EV)(h:AH):cE (.agg (bo e)) h=(.agg (bo e),h):=by have:=zj e h;rw[fM]at this;exact this
section
variable {K:aQ}{A:Ma}{B B1:Nat}{env:List DV}{M:Ms}{gN gF:Nat}{h:AH}
theorem c1103 (hK:aZ K)(m:Nat)(s:St A B B1 (.ls (env.map bW)) M gN gF h)(n:NV)(hd:∀ d∈env,DS d)(hl:env.length<1000):
  ∃ v h',cS K (m+4) (.fn 103 [] []) [.ptr A.a 0 0,aT n] .no h=some (.ret v,.no,h')/\v=TY env n/\HK h h':=by
 refine bh hK ajp (ae (bD _ _ _ _) (ae (jT _ _) (aC _))) ?_;have b1:=s.b1;have ra:=s.ok.rng.1;have n1:=ala h (.box [i_ n.kind,i_ n.idx,.str n.name,.ls (n.L.map ba),.ls (n.K.map AG.aO)]);obtain⟨H,hH⟩:∃ H:AH,H=(h.new (.box [i_ n.kind,i_ n.idx,.str n.name,.ls (n.L.map ba),.ls (n.K.map AG.aO)])).new (.box zE):=⟨_,rfl⟩
 have k1:HK h H:=by rw[hH];exact(HK.new _ _).add _
 have nH:H.z=h.z+2:=by rw[hH,ala,n1]
 have g3:H.get h.z=some (.box [i_ n.kind,i_ n.idx,.str n.name,.ls (n.L.map ba),.ls (n.K.map AG.aO)]):=by rw[hH,aL o_,aE]
 have g4:H.get (h.z+1)=some (.box zE):=by rw[hH,<- n1,aE]
 have hbx:∀ h:AH,dB h 5 (aT n)=.val (.ptr h.z 0 0) (h.new (.box (aT n).cells)):=fun h=>bN _ 5 rfl
 have gA:=(s.hk k1).gA;unfold mL at gA;unfold zE at hH;unfold aT at hbx;have fin:∀ (tm:Tm) (H2:AH) (e:AEx) (cs cs':List AV) (b:Bool),(e=.normal∨e=.ret)->nth tm 4=.ptr (h.z+1) 0 0->nth tm 5=.bool b->HK h H2->H2.get (h.z+1)=some (.box cs)->cs.length=9->cE (.agg cs) H2=(.agg cs',H2)->TY env n=.tup [.agg cs',.bool b]->
   IQ aay (fun v h2=>∃ v' h3,cG v h2=(v',h3)/\v'=TY env n/\HK h h3) e ⟨tm,⟨[],.no,none,103⟩⟩ H2:=by
  intro tm H2 e cs cs' b he t4 t5 kk g hcs hcan hf;refine⟨rfl,rfl,he,[.agg cs,.bool b],?_,_,H2,bz (ae hcan (ae (aW _ _) (aC _))),hf.symm,kk⟩;unfold aay;rw[kV,lS,pL,t4,t5,fk g hcs];rfl
 unfold agA aT;simp only[go_sem,simprocAttr,A_,hbx,n1];rw[<- hH];clear hH;simp only[go_sem,simprocAttr,KT,g3];by_cases hk:n.kind=3
 ·have dk:decide (n.kind=3)=true:=T_ hk;have kz:HK H (H.new (.box zE)):=HK.new _ _;obtain⟨v,H1,e1,rfl,k2⟩:=c257 hK m env n.name (H.new (.box zE)) hd hl;have nz:=ala H (.box zE);have nz2:=k2.z;have gz:H1.get H.z=some (.box zE):=(k2.kw _ o_).trans (aE _ _);have g31:=((kz.trans k2).kw _ o_).trans g3;have g41:=((kz.trans k2).kw _ o_).trans g4;have gAz:=(s.hk (k1.trans kz)).gA;have g3z:=(kz.kw _ o_).trans g3;have gA1:=fun o=>(s.up (h':=H1.set H.z o) (by rw[alb];have:=k1.z;omega) (fun k _ q2=>by rw[aB o_];exact((k1.trans kz).trans k2).kw k o_)).gA
  have g31s:=fun o=>(show(H1.set H.z o).get h.z=_ from aB o_).trans g31
  unfold mL at gAz gA1;unfold zE at e1 gAz g3z;cases hfe:iy n.name env 0 with
  |none=>
   rw[hfe,uU]at e1;have st:=bp (vs:=zEl) (sz:=9) gz rfl rfl;have g6:(H1.set H.z (.box zEl)).get H.z=some (.box zEl):=aH _ _ _;have ld:=fk (sz:=9) g6 rfl;have st4:=bp (h:=H1.set H.z (.box zEl)) (k:=h.z+1) (vs:=zEl) (sz:=9) (by rw[aB o_];exact g41) rfl rfl;unfold zEl at st ld st4;simp only[go_sem,simprocAttr,dk,Ax,gAz,g3z,e1,st,Ay,ld,st4];refine fin _ _ _ zEl zEl false (.inr rfl) k_ k_ ?_ (by rw[aH];rfl) rfl (ac6 _) (by unfold TY;rw[P_ hk,hfe]);exact(((k1.trans kz).trans k2).set (j:=H.z) _ o_).set (j:=h.z+1) _ o_
  |some e=>
   rw[hfe,uT,fM]at e1;have st:=bp (vs:=bo e) (sz:=9) gz rfl rfl;have g6:(H1.set H.z (.box (bo e))).get H.z=some (.box (bo e)):=aH _ _ _;have ld:=fk (sz:=9) g6 rfl;have st4:=bp (h:=H1.set H.z (.box (bo e))) (k:=h.z+1) (vs:=bo e) (sz:=9) (by rw[aB o_];exact g41) rfl rfl;have g3s:(H1.set H.z (.box (bo e))).get h.z=_:=(aB o_).trans g31;have ldp:cj (.ptr H.z 0 3) (H1.set H.z (.box (bo e))) false 1=some (i_ e.params):=by rw[eV,g6];rfl
   have g3f:=(show((H1.set H.z (.box (bo e))).set (h.z+1) (.box (bo e))).get h.z=_ from aB o_).trans g3s;have g6f:=(show((H1.set H.z (.box (bo e))).set (h.z+1) (.box (bo e))).get H.z=_ from aB o_).trans g6;have c3:(bo e)[3]?=some (i_ e.params):=rfl;simp only[go_sem,simprocAttr,dk,Ax,gAz,g3z,e1,st,Ay,ld,st4,ldp,g31s,c3,g3f,g6f];refine fin _ _ _ (bo e) (bo e) (decide (e.params=(n.L.length:Int))) (.inr rfl) k_ k_ ?_ (by rw[aH]) rfl (akb _ _) (by unfold TY;rw[P_ hk,hfe]);exact(((k1.trans kz).trans k2).set (j:=H.z) _ o_).set (j:=h.z+1) _ o_
 ·have dk:decide (n.kind=3)=false:=D_ hk;have st0:=bp (vs:=zE) (sz:=9) g4 rfl rfl;unfold zE at st0;simp only[go_sem,simprocAttr,dk,fP,st0];exact fin _ _ _ zE zEl false (.inr rfl) k_ k_ (k1.set _ o_) (by rw[aH];rfl) rfl (Zj _) (by unfold TY;rw[N_ hk])
def chs (nm:ByteArray):List Br->Option (Bool×eY)
 |[]=>none
 |.mk c ab t::l=>if c=nm then some (ab,t) else chs nm l
def chV (o:Option (Bool×eY)):AV:=match o with
 |some (ab,t)=>.tup [.agg (bu t),.bool (!ab)]
 |none=>.tup [.agg [i_ 0,i_ 0,i_ 0,.str (bs []),.ls [],.ls [],i_ 0,.ls []],.bool false]
def pR (b:Br):List AV:=match b with
 |.mk c ab t=>.str c :: .bool ab::bu t
theorem lq (b:Br):nL b=.agg (pR b):=by cases b;simp[nL,pR,lI]
theorem ml (b:Br):(nL b).cells.length=10:=by rw[lq];cases b;rfl
theorem iQ (t:eY)(h:AH):cE (.agg (bu t)) h=(.agg (bu t),h):=by
 rw[bG (by simp only[AV.free];exact qW t)];simp only[AV.norm,qV]
def I1148 (h0:AH)(t:eY)(nm:ByteArray)(j:Nat)(fr:AF)(h:AH):Prop:=∃ tm p,p+j=(cy t).length/\fr=⟨tm,⟨[],.no,none,148⟩⟩/\HK h0 h/\h0.z+2<=h.z/\h.get (h0.z+1)=some (.box [i_ 0,i_ 0,i_ 0,.str (bs []),.nl,.nl,i_ 0,.nl])/\
 nth tm 1=.str nm/\nth tm 4=.ptr (h0.z+1) 0 0/\nth tm 9=.ls ((cy t).map nL)/\nth tm 10=i_ ((cy t).length:Int)/\nth tm 11=i_ (p:Int)/\chs nm (cy t)=chs nm ((cy t).drop p)
theorem c1148 (hK:aZ K)(m:Nat)(t:eY)(nm:ByteArray)(h:AH)(hl:(cy t).length<1000):
  ∃ v h',cS K (m+1) (.fn 148 [] []) [.agg (bu t),.str nm] .no h=some (.ret v,.no,h')/\v=chV (chs nm (cy t))/\HK h h':=by
 refine bh hK ai7 (ae (iQ _ _) (ae (gK _ _) (aC _))) ?_;have n1:=ala h (.box (bu t));obtain⟨H,hH⟩:∃ H:AH,H=(h.new (.box (bu t))).new (.box [i_ 0,i_ 0,i_ 0,.str (bs []),.nl,.nl,i_ 0,.nl]):=⟨_,rfl⟩
 have k1:HK h H:=by rw[hH];exact(HK.new _ _).add _
 have nH:H.z=h.z+2:=by rw[hH,ala,n1]
 have g2:H.get h.z=some (.box (bu t)):=by rw[hH,aL o_,aE]
 have g4:H.get (h.z+1)=some (.box [i_ 0,i_ 0,i_ 0,.str (bs []),.nl,.nl,i_ 0,.nl]):=by rw[hH,<- n1,aE]
 have hbx:=bN (h:=h) (bu t) 8 rfl;have fin:∀ (tm:Tm) (H2:AH) (e:AEx) (cs cs':List AV) (b:Bool),(e=.normal∨e=.ret)->nth tm 4=.ptr (h.z+1) 0 0->nth tm 5=.bool b->HK h H2->H2.get (h.z+1)=some (.box cs)->cs.length=8->cE (.agg cs) H2=(.agg cs',H2)->chV (chs nm (cy t))=.tup [.agg cs',.bool b]->
   IQ aaq (fun v h2=>∃ v' h3,cG v h2=(v',h3)/\v'=chV (chs nm (cy t))/\HK h h3) e ⟨tm,⟨[],.no,none,148⟩⟩ H2:=by
  intro tm H2 e cs cs' b he t4 t5 kk g hcs hcan hf;refine⟨rfl,rfl,he,[.agg cs,.bool b],?_,_,H2,bz (ae hcan (ae (aW _ _) (aC _))),hf.symm,kk⟩;unfold aaq;rw[kV,lS,pL,t4,t5,fk g hcs];rfl
 unfold agj;simp only[go_sem,simprocAttr,A_,hbx,n1];rw[<- hH];clear hH;unfold bu gh at g2;simp only[go_sem,simprocAttr,JA,g2];refine bB (I1148 h t nm) (cy t).length o_ ⟨_,0,o_,rfl,k1,o_,g4,k_,k_,k_,k_,k_,rfl⟩ ?_;clear g2 g4;rintro j fr H1 ⟨tm,p,hp,rfl,k2,nx,g4,t1,t4,t9,t10,t11,hc⟩;unfold PC;simp only[go_sem,simprocAttr,t10,t11,JC];refine aX (fun hlt=>?_) (fun hge=>?_)
 ·have hlt:p<(cy t).length:=o_;have hget:(cy t)[p]?=some (cy t)[p]:=a_ hlt;revert hget;generalize (cy t)[p]=b;intro hget;have ha:=fun h=>aK ml hget .i64 h
  rw[vT hget]at hc;obtain⟨c,ab,tr⟩:=b;have hld:=fun h=>cI (v:=nL (.mk c ab tr)) (sz:=10) rfl (ml _) h
  rw[lq]at ha hld;have hst:=bp (h:=H1.new (.box [.str (bs []),.bool false,i_ 0,i_ 0,i_ 0,.str (bs []),.nl,.nl,i_ 0,.nl])) (vs:=pR (.mk c ab tr)) (sz:=10) (aE _ _) rfl rfl;obtain⟨H2,hH2⟩:∃ H2:AH,H2=(H1.new (.box [.str (bs []),.bool false,i_ 0,i_ 0,i_ 0,.str (bs []),.nl,.nl,i_ 0,.nl])).set H1.z (.box (pR (.mk c ab tr))):=⟨_,rfl⟩
  rw[<- hH2]at hst;have k3:HK H1 H2:=by rw[hH2];exact(HK.new _ _).set _ (e_ _)
  have g7:H2.get H1.z=some (.box (pR (.mk c ab tr))):=by rw[hH2,aH]
  have n2:H2.z=H1.z+1:=by rw[hH2,alb,ala]
  clear hH2;have g42:=(k3.kw _ o_).trans g4;have ld8:cj (.ptr H1.z 0 2) H2 true 8=some (.agg (bu tr)):=by
   rw[eV,g7,aI,eU,lK _ _ _ (by show 2+8<=10;omega)];rfl
  have st4:=bp (vs:=bu tr) (sz:=8) g42 rfl rfl;have hw2:=aP p o_;unfold pR at g7;simp only[go_sem,simprocAttr,JD,t9,t11,ha,hld,hst,JE,t1,g7,db];by_cases hs:c=nm
  ·have hd:decide (c=nm)=true:=T_ hs;have g7s:=fun o=>(show(H2.set (h.z+1) o).get H1.z=_ from aB o_).trans g7
   simp only[go_sem,simprocAttr,hd,ld8,g7,g7s,wT,t4,st4];refine fin _ _ _ (bu tr) (bu tr) (!ab) (.inr rfl) (q_ t4) k_ ((k2.trans k3).set _ o_) (aH _ _ _) rfl (iQ _ _) ?_;rw[hc,chs,P_ hs];rfl
  ·have hd:decide (c=nm)=false:=D_ hs;simp only[go_sem,simprocAttr,hd,t11,hw2];refine⟨j-1,o_,_,p+1,o_,rfl,k2.trans k3,o_,g42,q_ t1,q_ t4,q_ t9,q_ t10,k_,?_⟩;rw[hc,chs,N_ hs]
 ·have hp5:p=(cy t).length:=o_;subst hp5;rw[List.drop_length]at hc;have st4:=bp (vs:=[i_ 0,i_ 0,i_ 0,.str (bs []),.nl,.nl,i_ 0,.nl]) (sz:=8) g4 rfl rfl;simp only[go_sem,simprocAttr,JB,fP,t4,st4];refine fin _ _ _ _ [i_ 0,i_ 0,i_ 0,.str (bs []),.ls [],.ls [],i_ 0,.ls []] false (.inr rfl) (q_ t4) k_ (k2.set _ o_) (aH _ _ _) rfl ?_ (by rw[hc];rfl);rw[bG (by simp[AV.free,AV.ale])];simp[AV.norm,AV.ald]
theorem c1147 (hK:aZ K)(m:Nat)(l:List Int)(hl:l≠[])(hn:l.length<10000)(h:AH):
  ∃ v h',cS K (m+1) (.fn 147 [] []) [.ls (l.map AG.aO)] .no h=some (.ret v,.no,h')/\Own h.z 1 false h' v (l.map AG.aO)/\HK h h':=by
 refine Pg hK ai8 (ae (dM _ _) (aC _)) ?_;have hne:∀ h:AH,qJ (.ls (l.map AG.aO)) .eql .slice .nl=some (.bool false):=by
  intro _;cases l with
  |nil=>exact absurd rfl hl
  |cons a l=>rfl
 have hlit:∀ h:AH,fY true false 1 [i_ 0] 0 [] h=.val (.clip []) h:=fun _=>rfl
 have hp0:∀ (tm:Tm) (sz:Nat),cD [] tm sz=[]:=fun _ _=>rfl
 have eap:cU h 1 false [i_ 0] 8 (.clip []) (.ls (l.map AG.aO))=some (.row h.z 0 1 0 l.length,h.new (.row 0 1 false (flat (l.map AG.aO)) 0)):=by
  have e0:cU h 1 false [i_ 0] 8 (.clip []) (.ls (l.map AG.aO))=List.casesOn (l.map AG.aO) (pS (.clip []) h) fun y ys=>jw (.clip []) h 1 false 8 (y::ys):=by
   show aD (cond (ew 1 (l.map AG.aO)) (some (l.map AG.aO)) none) (fun xs=>cond (and (fy xs) (Nat.beq (len ([i_ 0]:List AV)) 1)) _ _)=_;rw[vq];show cond (and (fy (l.map AG.aO)) true) _ _=_;rw[Fs];rfl
  rw[e0];have hneed:need 0 (l.map AG.aO).length 8=true:=by
   show and (Nat.ble ((2*(0+(l.map AG.aO).length)+1000)*8) 140737488355328) (Nat.ble (0+(l.map AG.aO).length) 9223372036854775807)=true;rw[L_,fh o_,fh o_];rfl
  cases l with
  |nil=>exact absurd rfl hl
  |cons a l=>
   show cond (and (need 0 (len ((a::l).map AG.aO)) 8) true) (some (AV.row h.z 0 1 0 (0+len ((a::l).map AG.aO)),h.new (.row 0 1 false (app [] (flat ((a::l).map AG.aO))) 0))) none=_;rw[bH,hneed,L_,z_];rfl
 unfold agk;simp only[go_sem,simprocAttr,A_,JF,hne h,JG,hlit,hp0,eap];exact⟨rfl,rfl,.inr rfl,[_],by simp only[go_sem,simprocAttr,ae1];rfl,⟨jV _,.inr ⟨h.z,0,by rw[L_];rfl,aE _ _,by rw[ala];omega,e_ _⟩⟩,HK.new _ _⟩
end
mutual
def To:eY->Nat->Prop
 |.mk _ b _ l,n=>TOK b/\size b<50000/\l.length<1000/\Tp l n
def Tp:List Br->Nat->Prop
 |[],_=>True
 |.mk _ _ t::l,n=>(∃ k,n=k+1/\To t k)/\Tp l n
end
theorem Zg {nm:ByteArray}{n:Nat}: ∀ {l:List Br} {ab:Bool} {t:eY},Tp l n->chs nm l=some (ab,t)->∃ k,n=k+1/\To t k
 |.mk c a t::l,ab,u,h,e=>by
  unfold Tp at h;unfold chs at e;split at e
  ·cases e;exact h.1
  ·exact Zg h.2 e
structure Dg (d:DV):Prop where
 ds:DS d
 fx0:0<=d.fixed
 fx1:d.kind=3->d.fixed<=(gk d.type).length
 ty:size d.type<50000
 cty:∀ c∈d.ctors,size c.type<50000/\(gk c.type).length<=400
 value:d.kind=1->TOK d.value/\size d.value<50000
 rules:∀ r∈d.rules,TOK r/\size r<50000
 funs:∀ f∈d.funs,1<=f.arity/\f.arity<=16/\To f.tree 50
structure Eg (env:List DV):Prop where
 len:env.length<1000
 dg:∀ d∈env,Dg d
theorem Eg.ds {env:List DV}(g:Eg env):∀ d∈env,DS d:=fun d h=>(g.dg d h).ds
theorem fam_cases (env:List DV)(nm:ByteArray):(∃ cs j b,Hx env nm=.tup [.agg cs,i_ j,.bool b]/\cs.length=23/\(b=false∨j<0)/\CS env nm=none)∨
  ∃ (d:DV) (jn:Nat) (c:CtV),d∈env/\Hx env nm=.tup [bW d,i_ (jn:Int),.bool true]/\d.ctors[jn]?=some c/\CS env nm=some (d.name,jn,(gk c.type).length,d.fixed.toNat,c.name):=by
 unfold Hx CS;cases hf:iy nm env 0 with
 |none=>exact .inl ⟨_,_,_,rfl,rfl,.inl rfl,rfl⟩
 |some e=>
  have ent:=pg env env 0 e (fun j=>by rw[z_]) hf;simp only;cases ent with
  |plain k n d p t h1 h2 h3=>
   simp only[Int.toNat_natCast,h1];rw[N_ (show ¬ k=4 by omega),N_ (show ¬ k=4 by omega),N_ (show ¬ k=5 by omega)];by_cases q:k=3
   ·rw[P_ q];exact .inl ⟨_,_,_,rfl,rfl,.inr o_,rfl⟩
   ·rw[N_ q];exact .inl ⟨_,_,_,rfl,rfl,.inl rfl,rfl⟩
  |ctor n j d c p h1 h2 h3=>
   simp only[Int.toNat_natCast,h1,h3];exact .inr ⟨d,j,c,m_ h1,rfl,h3,rfl⟩
  |rcr n d p t h1 h2=>
   simp only[Int.toNat_natCast,h1];exact .inl ⟨_,_,_,rfl,rfl,.inr o_,rfl⟩
  |fn n j d f p h1 h2 h3=>
   simp only[Int.toNat_natCast,h1];exact .inl ⟨_,_,_,rfl,rfl,.inl rfl,rfl⟩
theorem Rw {tm:Tm}{x:AX}{n b d:Nat}(e:ev x tm=i_ (n:Int))(hn:n<=b):xt (some x) tm d b=some n:=by
 show lB (ev x tm) b=some n;rw[e];show aD (some n) (fun m=>cond (Nat.ble m b) (some m) none)=_;rw[aI,fh hn];rfl
theorem oT (h:AH)(l:List Int){n:Nat}{tm:Tm}{x:AX}(e:ev x tm=i_ (n:Int))(hn:n<=l.length):fq h 1 (.ls (l.map AG.aO)) tm (some x) none none=some (.ls ((l.drop n).map AG.aO),h):=by
 unfold fq;show aD (some (len (l.map AG.aO))) _=_;rw[aI,bH,L_];show aD (some l.length) _=_;rw[aI,Rw e hn,aI];show cond (ew 1 (l.map AG.aO)) (some (AV.ls (tke (l.length-n) (drp n (l.map AG.aO))),h)) none=_;rw[vq,iB,fa,List.take_of_length_le (by simp),List.map_drop];rfl
theorem yh (h:AH)(l:List Int){n:Nat}(hn:n<=l.length):sf h 1 (.ls (l.map AG.aO)) (i_ (n:Int))=some (.ls ((l.take n).map AG.aO),h):=by
 show aD (some (len (l.map AG.aO))) (fun m=>aD (lB (i_ (n:Int)) m) fun hb=>aD (some 0) fun lo=>zi (.ls (l.map AG.aO)) h 1 lo hb)=_;rw[aI,bH,L_];have e:lB (i_ (n:Int)) l.length=some n:=by
  show aD (some n) (fun m=>cond (Nat.ble m l.length) (some m) none)=_;rw[aI,fh hn];rfl
 rw[e,aI,aI];show cond (ew 1 (l.map AG.aO)) (some (AV.ls (tke (n-0) (drp 0 (l.map AG.aO))),h)) none=_;rw[vq,iB,fa,List.drop_zero,Nat.sub_zero,List.map_take];rfl
theorem wK (c:CtV)(h:AH):cp (.vptr (.agg (nU c))) h 1 5 true=.val (.vptr (.agg (aJ c.type))) h:=rfl
theorem kG (t:T)(h:AH):cj (.vptr (.agg (aJ t))) h true 5=some (.agg (aJ t)):=fI true 5 rfl rfl
section
variable {K:aQ}{A:Ma}{B B1:Nat}{env:List DV}{M:Ms}{gN gF:Nat}{h:AH}{inst:T->List LL->Option T}
def Ce (env:List DV)(inst:T->List LL->Option T):MK.Cx:=⟨Tl env,CS env,inst⟩
def CtR (env:List DV)(M:Ms)(o:Option Hv)(v:AV):Prop:=match o with
 |none=>∃ cs j,v=.tup [.agg cs,i_ j,.ls [],.bool false]/\cs.length=23
 |some cv=>∃ d ids,d∈env/\v=.tup [.agg (aM d),i_ (cv.j:Int),.ls (ids.map AG.aO),.bool true]/\d.name=cv.fam/\Lk M.ts ids cv.fields/\(∃ c,d.ctors[cv.j]?=some c/\c.name=cv.name)/\ids.length<=400
theorem afG (hK:aZ K)(eg:Eg env)(m:Nat)(s:St A B B1 (.ls (env.map bW)) M gN gF h)(g:Wg M){x:Int}{t:T}(hx:At M.ts x t):
  ∃ v h',cS K (m+5) (.fn 146 [] []) [.ptr A.a 0 0,i_ x] .no h=some (.ret v,.no,h')/\CtR env M (dy (Ce env inst) t) v/\HK h h':=by
 refine bh hK ai9 (ae (bD _ _ _ _) (ae (aG _ _ _) (aC _))) ?_;have b1:=s.b1;have ra:=s.ok.rng.1;obtain⟨H0,hH⟩:∃ H:AH,H=h.new (.box zD):=⟨_,rfl⟩
 have k0:HK h H0:=by rw[hH];exact HK.new _ _
 have n0:H0.z=h.z+1:=by rw[hH,ala]
 have g40:H0.get h.z=some (.box zD):=by rw[hH,aE]
 obtain⟨v,H1,e1,⟨r,ids,rfl,ah,lk,hil⟩,k1⟩:=TS hK (m+2) (s.hk k0) g x t hx;have n1:=k1.z;have k01:=k0.trans k1;have s1:=s.hk k01;have g41:=(k1.kw _ o_).trans g40;obtain⟨rn,rfl,er⟩:=ah.nat;obtain⟨nv,ks,hn,hht,lkn,hlt,tok,_⟩:=g.at_node ah;have hn:M.ns[rn]?=some nv:=by simpa using hn
 have hj:rn<M.ns.length:=(E_.1 hn).1;have hkind:(bF t).1.kind=nv.kind:=by rw[hht];rfl
 have hname:(bF t).1.name=nv.name:=by rw[hht];rfl
 have cl:=s1.cell hn;have ad:=fun H=>s1.addr hj H
 have gA1:=s1.gA;have l0:=cl.l0;have l2:=cl.l2;unfold mL at gA1;have fin:∀ (tm:Tm) (H2:AH) (e:AEx) (cs cs':List AV) (j:Int) (y y':AV) (b:Bool),(e=.normal∨e=.ret)->nth tm 4=.ptr h.z 0 0->nth tm 5=i_ j->nth tm 6=y->nth tm 7=.bool b->HK h H2->H2.get h.z=some (.box cs)->cs.length=23->cE (.agg cs) H2=(.agg cs',H2)->cE y H2=(y',H2)->CtR env M (dy (Ce env inst) t) (.tup [.agg cs',i_ j,y',.bool b])->
   IQ aar (fun v h2=>∃ v' h3,cG v h2=(v',h3)/\CtR env M (dy (Ce env inst) t) v'/\HK h h3) e ⟨tm,⟨[],.no,none,146⟩⟩ H2:=by
  intro tm H2 e cs cs' j y y' b he t4 t5 t6 t7 kk g hcs hcan hy hf;refine⟨rfl,rfl,he,[.agg cs,i_ j,y,.bool b],?_,_,H2,bz (ae hcan (ae (aG _ _ _) (ae hy (ae (aW _ _) (aC _))))),hf,kk⟩;unfold aar;rw[kV,lS,lS,lS,pL,t4,t5,t6,t7,fk g hcs];rfl
 unfold zD at hH;unfold agl;simp only[go_sem,simprocAttr,A_];rw[<- hH];clear hH;simp only[go_sem,simprocAttr,JH,e1,JI,gA1,ad,l0];by_cases hk:nv.kind=3
 ·have dk:decide (nv.kind=3)=true:=T_ hk;have kz:HK H1 (H1.new (.box zD)):=HK.new _ _;obtain⟨v,H2,e2,rfl,k2⟩:=c324 hK m env nv.name (H1.new (.box zD)) eg.ds eg.len;have nz:=ala H1 (.box zD);have nz2:=k2.z;have gz:H2.get H1.z=some (.box zD):=(k2.kw _ o_).trans (aE _ _);have kz2:=kz.trans k2;have g42:=(kz2.kw _ o_).trans g41;have k02:=k01.trans kz2;have clz:=(s.hk (k01.trans kz)).cell hn;have gAz:=(s.hk (k01.trans kz)).gA;have l2z:=clz.l2;have sS:∀ o,St A B B1 (.ls (env.map bW)) M gN gF (H2.set H1.z o):=fun o=>s.up (h':=H2.set H1.z o) (by rw[alb];omega) (fun k _ q2=>by rw[aB o_];exact k02.kw k o_)
  have gAs:=fun o=>(sS o).gA
  have l2s:=fun o=>((sS o).cell hn).l2
  unfold mL at gAz gAs;unfold zD at gAz l2z;rcases fam_cases env nv.name with⟨cs,j,b,ef,hcs,hbj,hno⟩|⟨d,jn,c,hdm,ef,hc,hsome⟩
  ·have hnone:dy (Ce env inst) t=none:=by unfold dy;rw[hkind,P_ hk,hname];show(match CS env nv.name with|some (fam,j,n,fx,nm)=>_|none=>none)=none;rw[hno]
   rw[ef]at e2;have st:=bp (vs:=cs) (sz:=23) gz rfl hcs;have st4:=bp (h:=H2.set H1.z (.box cs)) (k:=h.z) (vs:=zD) (sz:=23) (by rw[aB o_];exact g42) rfl rfl;have kf:HK h ((H2.set H1.z (.box cs)).set h.z (.box zD)):=(k02.set (j:=H1.z) _ o_).set (j:=h.z) _ (e_ _);unfold zD at e2 st4;rcases hbj with rfl|hj0
   ·simp only[go_sem,simprocAttr,dk,nN,gAz,ad,l2z,e2,st,nO,fP,st4];exact fin _ _ _ zD zDl 0 _ (.ls []) false (.inr rfl) k_ k_ k_ k_ kf (by rw[aH];rfl) rfl (pX _) (dU _) (by rw[hnone];exact⟨_,_,rfl,rfl⟩)
   ·have dj:decide (j<0)=true:=T_ hj0;cases b with
    |false=>
     simp only[go_sem,simprocAttr,dk,nN,gAz,ad,l2z,e2,st,nO,fP,st4];exact fin _ _ _ zD zDl 0 _ (.ls []) false (.inr rfl) k_ k_ k_ k_ kf (by rw[aH];rfl) rfl (pX _) (dU _) (by rw[hnone];exact⟨_,_,rfl,rfl⟩)
    |true=>
     simp only[go_sem,simprocAttr,dk,dj,nN,gAz,ad,l2z,e2,st,nO,fP,st4];exact fin _ _ _ zD zDl 0 _ (.ls []) false (.inr rfl) k_ k_ k_ k_ kf (by rw[aH];rfl) rfl (pX _) (dU _) (by rw[hnone];exact⟨_,_,rfl,rfl⟩)
  ·rw[ef]at e2;rw[cA]at e2;have st:=bp (vs:=aM d) (sz:=23) gz rfl rfl;obtain⟨H3,hH3⟩:∃ H3:AH,H3=H2.set H1.z (.box (aM d)):=⟨_,rfl⟩
   have gA3:=gAs (.box (aM d));have l23:=l2s (.box (aM d));rw[<- hH3]at st gA3 l23;have g10:H3.get H1.z=some (.box (aM d)):=by rw[hH3,aH]
   have g43:H3.get h.z=some (.box zD):=by rw[hH3,aB o_];exact g42
   have k03:HK h H3:=by rw[hH3];exact k02.set _ o_
   have n3:H3.z=H2.z:=by rw[hH3,alb]
   clear hH3;have dl:=(E_.1 hc).1;have dj0:decide ((jn:Int)<0)=false:=d_;have dj1:decide ((d.ctors.length:Int)<=(jn:Int))=false:=d_;have dg:=eg.dg d hdm;have hcm:=m_ hc;have hia:=fun h=>aK fN hc .i64 h
   rw[wO]at hia;obtain⟨v5,H5,e5,rfl,k5⟩:=c312 hK (m+3) c.type H3 (dg.cty c hcm).1;rw[dF]at e5;have n5:=k5.z;have g10':=(k5.kw _ o_).trans g10;have g44:=(k5.kw _ o_).trans g43;have k05:=k03.trans k5;have hst:=bp (h:=H5.new (.box [i_ 0,i_ 0,.str (bs []),.nl,.nl])) (vs:=aJ (nW c.type)) (sz:=5) (aE _ _) rfl rfl;obtain⟨H6,hH6⟩:∃ H6:AH,H6=(H5.new (.box [i_ 0,i_ 0,.str (bs []),.nl,.nl])).set H5.z (.box (aJ (nW c.type))):=⟨_,rfl⟩
   rw[<- hH6,<- dF]at hst;have k6:HK H5 H6:=by rw[hH6];exact(HK.new _ _).set _ (e_ _)
   clear hH6;have g106:=(k6.kw _ o_).trans g10';have g46:=(k6.kw _ o_).trans g44;have k06:=k05.trans k6;have hlen:(bF t).2.length=ids.length:=lk.len.symm;have hct:dy (Ce env inst) t=if (bF t).2.length=(gk c.type).length/\d.fixed.toNat<=(gk c.type).length then some ⟨d.name,jn,c.name,(bF t).2.drop d.fixed.toNat⟩ else none:=by
    unfold dy;rw[hkind,P_ hk,hname];show(match CS env nv.name with|some (fam,j,n,fx,nm)=>_|none=>none)=_;rw[hsome]
   have fx0:=dg.fx0;have st0:=bp (vs:=zD) (sz:=23) g46 rfl rfl;unfold zD at e2 st0;unfold aM at g10 g106;by_cases hq:ids.length=(gk c.type).length
   ·have dq:decide ((ids.length:Int)=((gk c.type).length:Int))=true:=t_;by_cases hfx:(ids.length:Int)<d.fixed
    ·have df:decide ((ids.length:Int)<d.fixed)=true:=T_ hfx;have hnone:dy (Ce env inst) t=none:=by rw[hct,N_ o_]
     simp only[go_sem,simprocAttr,dk,dj0,dj1,nN,gAz,ad,l2z,e2,st,nO,g10,vw,hia,wK,kG,e5,hst,vx,L_,dq,df,g106,fP,st0];exact fin _ _ _ zD zDl 0 _ (.ls []) false (.inr rfl) k_ k_ k_ k_ (k06.set _ (e_ _)) (by rw[aH];rfl) rfl (pX _) (dU _) (by rw[hnone];exact⟨_,_,rfl,rfl⟩)
    ·have df:decide ((ids.length:Int)<d.fixed)=false:=D_ hfx;obtain⟨fxn,hfn⟩:∃ n:Nat,d.fixed=n:=⟨d.fixed.toNat,o_⟩
     have hsl:∀ (tm:Tm) (h:AH),nth tm 91=i_ (fxn:Int)->fq h 1 (.ls (ids.map AG.aO)) tm (some (.t 91)) none none=some (.ls ((ids.drop fxn).map AG.aO),h):=fun tm h e=>oT h ids e o_
     have ldD:=fk (h:=H6) (k:=H1.z) (sz:=23) (cs:=aM d) g106 rfl;have st1:=bp (vs:=aM d) (sz:=23) g46 rfl rfl;have g106s:=fun o=>(show(H6.set h.z o).get H1.z=_ from aB o_).trans g106
     rw[hfn]at g106s g106 df;simp only[go_sem,simprocAttr,dk,dj0,dj1,nN,gAz,ad,l2z,e2,st,nO,g10,vw,hia,wK,kG,e5,hst,vx,L_,dq,df,g106,JJ,ldD,hsl,st1,g106s];refine fin _ _ _ (aM d) (aM d) jn _ (.ls ((ids.drop fxn).map AG.aO)) true (.inr rfl) k_ k_ k_ k_ (k06.set _ (e_ _)) (aH _ _ _) rfl (by have:=mr d (H6.set h.z (.box (aM d)));rw[cA]at this;exact this) (dM _ _) ?_;rw[hct,P_ o_,hfn,Int.toNat_natCast];exact⟨d,ids.drop fxn,hdm,rfl,rfl,lk.drop fxn,⟨c,hc,rfl⟩,by rw[List.length_drop];have:=(dg.cty c hcm).2;omega⟩
   ·have dq:decide ((ids.length:Int)=((gk c.type).length:Int))=false:=d_;have hnone:dy (Ce env inst) t=none:=by rw[hct,N_ o_]
    simp only[go_sem,simprocAttr,dk,dj0,dj1,nN,gAz,ad,l2z,e2,st,nO,g10,vw,hia,wK,kG,e5,hst,vx,L_,dq,fP,st0];exact fin _ _ _ zD zDl 0 _ (.ls []) false (.inr rfl) k_ k_ k_ k_ (k06.set _ (e_ _)) (by rw[aH];rfl) rfl (pX _) (dU _) (by rw[hnone];exact⟨_,_,rfl,rfl⟩)
 ·have dk:decide (nv.kind=3)=false:=D_ hk;have st0:=bp (vs:=zD) (sz:=23) g41 rfl rfl;have hnone:dy (Ce env inst) t=none:=by unfold dy;rw[hkind,N_ hk]
  unfold zD at st0;simp only[go_sem,simprocAttr,dk,fP,st0];exact fin _ _ _ zD zDl 0 _ (.ls []) false (.inr rfl) k_ k_ k_ k_ (k01.set _ o_) (by rw[aH];rfl) rfl (pX _) (dU _) (by rw[hnone];exact⟨_,_,rfl,rfl⟩)
end
