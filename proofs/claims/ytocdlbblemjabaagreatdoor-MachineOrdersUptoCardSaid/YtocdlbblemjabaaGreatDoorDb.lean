/- Lemmas for MachineOrders (no condition). -/
import Derived.Test.YtocdlbblemjabaaGreatDoorDd
namespace Go.Proofs.YtocdlbblemjabaaGreatDoor
open Go.AG Go.AG.MK
variable {d:AH}{x:Int}{ts:List T}{C:MK.Cx}{c:Ms}{k:Nat}{t u:T}
section
variable {K:aN}{A:Ma}{B B1:Nat}{E:AV}{M:Ms}{gN gF:Nat}{h:AH}
structure Po (A:Ma)(k:Nat)(q:Bool)(h:AH):Prop where
 gM:h.get k=some (.box [.P A.a])
 gB:h.get (k+1)=some (.box [.bool q])
 lt:k+2<=h.z
theorem fco [RunsM K][T:KM K]{kS:Nat}(hk:B1<=k)(U:k+2<=kS)(Q:Ms):Fc K A B B1 E (λj=>j=k+1) kS (215) [.P (k+1),.P k] (Fl 0) (Po A k) Q where
 up _ h f p n x:=⟨(x _ o_ hk (by have:=p.lt;omega)).trans p.gM,(x _ o_ o_ (by have:=p.lt;omega)).trans p.gB,C_ p.lt n⟩
 run M gN gF h i d q _ s g c p i0 i1 d0 d1:=by
  have run:=λF=>(lW) [.P (k+1),.P k] [.I i,.I d] _ .no h h _ _ _ (λo z f=>z=.no/\PX A B B1 E (λj=>j=k+1) M h (Fl 0 i d) (Po A k (q||decide (i=0))) o f) aeh (ae (aL _ _ _) (ae (aL _ _ _) (aH _))) F;suffices F:R_ K [.code WU] (XQ (cS K) JD (mD λo z f=>z=.no/\PX A B B1 E (λj=>j=k+1) M h (Fl 0 i d) (Po A k (q||decide (i=0))) o f)) .normal ⟨cU ([.I i,.I d]++[.P (k+1),.P k]),⟨[],.no,none,215⟩⟩ h by
   obtain⟨o,_,f,e,rfl,q⟩:=run F;exact⟨o,f,e,q⟩
  clear run;have G:=p.gM;have P:=p.gB;have L:=p.lt;have l:=aW (i+d) o_ o_;have⟨H,m⟩:∃H:AH,H=h.set (k+1) (.box [.bool (q||decide (i=0))]):=⟨_,rfl⟩;have w:H.get k=some (.box [.P A.a]):=by rw[m,aA o_];exact G
  have y:Po A k (q||decide (i=0)) H:=⟨w,by rw[m,aF],by rw[m,aE];exact L⟩;have S:St A B B1 E M gN gF H:=by rw[m];exact s.set _ o_
  have C:HX B B1 (λj=>j=k+1) h H:=by rw[m];exact(HX.refl _).set _ (.inr rfl)
  have⟨_,f,e,b,O⟩:=EN S g (i+d);have D:Po A k (q||decide (i=0)) f:=⟨(b.kw _ (by have:=y.lt;omega) (.inr (.inl hk))).trans y.gM,(b.kw _ (by have:=y.lt;omega) (.inr o_)).trans y.gB,C_ y.lt b.z⟩;unfold WU;cases q with
  |true=>
   simp only[Bool.true_or]at m D;simp only[go_sem,P];rw[<-m];simp only[go_sem,w,l];rcases O with⟨v,rfl,I,u,t,st,J,le,_,_,N,r,rfl,a⟩|rfl
   ·simp only[go_sem,e];exact jl (vs:=[.I r]) (.inr rfl) (by simp only[go_sem,JD]) ⟨.I r,f,cv_ (aL _ _ _),rfl,C.trans b.x,.inl ⟨_,rfl,⟨I,u,t,st,J,le,N.v c,r,rfl,by unfold Fl;rw[Int.add_zero];exact a⟩,D⟩⟩
   simp only[go_sem,e];exact jE ⟨rfl,C.trans b.x,.inr rfl⟩
  |false=>
   simp only[Bool.false_or]at m D;simp only[go_sem,P];rw[<-m];simp only[go_sem,w,l];rcases O with⟨v,rfl,I,u,t,st,J,le,_,_,N,r,rfl,a⟩|rfl
   ·simp only[go_sem,e];exact jl (vs:=[.I r]) (.inr rfl) (by simp only[go_sem,JD]) ⟨.I r,f,cv_ (aL _ _ _),rfl,C.trans b.x,.inl ⟨_,rfl,⟨I,u,t,st,J,le,N.v c,r,rfl,by unfold Fl;rw[Int.add_zero];exact a⟩,D⟩⟩
   simp only[go_sem,e];exact jE ⟨rfl,C.trans b.x,.inr rfl⟩
theorem c1191 [RunsM K][S:KM K](s:St A B B1 E M gN gF h)(g:Wg M)(c:Ct M)(hx:At M.ts x t):
  Mc K A B B1 E (191) [] [.P A.a,.I x] M h λy v=>Sv M y/\v=.bool (occ t 0):=by
 have U:=s.b1;refine iW ael ?_;have⟨j,b⟩:∃H:AH,H=(h.new (.box [.P A.a])).new (.box [.bool false]):=⟨_,rfl⟩;have O:HK h j:=by rw[b];exact(HK.new _ _).add _
 have n1:=aB h (.box [.P A.a]);have z:j.get (h.z+1)=some (.box [.bool false]):=by rw[b,<-n1,aD]
 have u:j.get h.z=some (.box [.P A.a]):=by rw[b,aM o_,aD]
 have l:j.z=h.z+2:=by rw[b,aB,aB]
 have⟨H,d⟩:∃H:AH,H=j.set (h.z+1) (.box [.bool false]):=⟨_,rfl⟩;have D:HK h H:=by rw[d];exact O.set _ o_
 have G:H.get (h.z+1)=some (.box [.bool false]):=by rw[d,aF]
 have C:H.get h.z=some (.box [.P A.a]):=by rw[d,aA o_];exact u
 have V:H.z=h.z+2:=by rw[d,aE,l]
 simp only[go_sem,aB];rw[<-b];simp only[go_sem,z];rw[<-d];simp only[go_sem,C];clear b;clear d;have p:Po A h.z false H:=⟨C,G,o_⟩;have N:=fco (A:=A) (B:=B) (B1:=B1) (E:=E) (k:=h.z) (kS:=H.z+2) o_ o_ M;have⟨_,L,e,F,q⟩:=Vr (q0:=false) (d:=0) N (λk w=>by omega) (Le.refl M) (by simp[AV.norms,AV.norm]) (s.hk D) g c hx o_ o_ p;have f:HM B B1 h L:=⟨by have:=F.z;omega,λk R I=>(F.kw k o_ I (λw=>by omega)).trans (D.kw k R)⟩;rcases q with⟨v,rfl,⟨y,m,n,st,P,le,Q,r,rfl,a⟩,J⟩|rfl
 ·have i:=J.gB;rw[Bool.false_or]at i;simp only[go_sem,e,i];exact oB (vs:=[.bool (occ t 0)]) (.inr rfl) (by simp only[go_sem,VT]) (cv_ (bp _ _)) f ⟨y,m,n,st,P,le,Q,rfl⟩
 simp only[go_sem,e];exact cP f
theorem c1156 [RunsM K][km:KM K](s:St A B B1 E M gN gF h)(g:Wg M)(c:Ct M){nv:NV}{I:List T}(lk:Lk M.ts nv.K I)(tok:TOK (ndT nv I)):
  Mc K A B B1 E (156) [] [.P A.a,bU nv] M h λM' v=>Pv (qQ (ndT nv I)) M M' v:=by
 refine iW aez ?_;have b1:=s.b1;have⟨H,hH,kk,_,g3⟩:=nw h (.box (n_ nv));have eN:bU nv=.agg (n_ nv):=rfl;have fin:∀(tm:Tm) (H1:AH) (M1:Ms) (a8 bk:Nat),nth tm 0=.P A.a->nth tm 3=.P h.z->St A B B1 E M1 a8 bk H1->Wg M1->Le M M1->Sv M M1->HM B B1 h H1->
   H1.get h.z=some (.box (n_ nv))->qQ (ndT nv I)=ndT nv I->
   R_ K [.code DO] (XQ (cS K) Fh (mD (PM B B1 h λv h'=>Gq A B B1 E M h' λM'=>Pv (qQ (ndT nv I)) M M' v))) .normal (F_ 156 tm) H1:=by
  intro tm H1 M1 a8 bk t0 t3 st g1 le sv bg e3 ee;have⟨o,_,e,bd,q⟩:=FK st g1 nv I (le.lk lk) tok;rw[eN]at e;simp only[go_sem,DO,t0,t3,e3];rcases q with⟨v,rfl,M',ci,bq,b2,g',bx,sm,r,rfl,a⟩|rfl
  ·simp only[go_sem,e];exact iX (.inr rfl) (by simp only[go_sem,Fh]) (bg.trans bd) ⟨M',ci,bq,b2,g',le.trans bx,sv.trans (sm.v (sv.ct c)),r,rfl,by rw[ee];exact a⟩
  simp only[go_sem,e];exact cP (bg.trans bd)
 have sH:=s.hk kk;have gA:=sH.gA;unfold kj at gA;have nd:=tok;unfold ndT TOK at nd;have j:=nd.1.K;rw[<-lk.len]at j;rw[eN]at ⊢;simp only[go_sem];rw[<-hH];by_cases h5:nv.D=5
 ·have d5:=T_ h5;have⟨x,b,_,tb,ek,et,_,ab⟩:=agM lk (by rw[h5]at j;simp[cN]at j;omega);have⟨nb,kb,t,Q,U,_,O,_⟩:=g.at_node ab;obtain⟨bn,rfl,_⟩:=ab.nat;rw[G_]at t;have a2:=(E_.1 t).1;have i1:∀(a:Int) (b:Int),bW (.ls [.I a,.I b]) 1 (.I 1)=some (.vp (.I b)):=λ_ _=>rfl;have i0:∀(a:Int) (b:Int),bW (.ls [.I a,.I b]) 1 (.I 0)=some (.vp (.I a)):=λ_ _=>rfl;have V:AV.eI nv.K=.ls [.I x,.I bn]:=by rw[ek];rfl
  have⟨G,l,k2,_⟩:=nw H (.box zT);have ag:=k2.up g3;have s2:=sH.hk k2;have J:=s2.gA;have b4:G.get H.z=some (.box zT):=by rw[l,aD]
  have bb:G.z=H.z+1:=by rw[l,aB]
  have ea:=s2.addr a2;have l5:=(s2.cell t).l5;unfold kj at J;unfold bU at l5;have⟨F,m⟩:∃F:AH,F=G.set H.z (.box (n_ nb)):=⟨_,rfl⟩;have N:HK H F:=by rw[m];exact k2.set _ o_
  have ak:F.get H.z=some (.box (n_ nb)):=by rw[m,aF]
  have C:=N.up g3;have W:=sH.hk N;have n:=W.gA;unfold kj at n;have cn:F.z=H.z+1:=by rw[m,aE,bb]
  simp only[go_sem,d5];rw[<-l];simp only[go_sem,ag,J,V,i1,ea,l5,b4];rw[<-m];clear l m;have d:(∀f v,tb.D=4->tb.K=[f,v]->v.D=0->v.X=0->occ f 0=true)->qQ (ndT nv I)=ndT nv I:=λq=>by
   unfold ndT;rw[h5,et];exact KB q
  by_cases h4:nb.D=4
  ·have d4:=T_ h4;have u:=O;rw[Q]at u;unfold ndT TOK at u;have S:=u.1.K;rw[<-U.len,h4]at S;have⟨f,v,tf,tv,au,y,af,av⟩:=agM U (by simp[cN]at S;omega);have k:AV.eI nb.K=.ls [.I f,.I v]:=by rw[au];rfl
   have⟨nw,kw,aj,ew,_,_,Z,_⟩:=g.at_node av;obtain⟨_,rfl,_⟩:=av.nat;rw[G_]at aj;have bl:=(E_.1 aj).1;have ay:=W.addr bl;have l0:=(W.cell aj).l0;have l1:=(W.cell aj).l1;by_cases h0:nw.D=0
   ·have d0:=T_ h0;by_cases hi:nw.X=0
    ·have di:=T_ hi;have⟨o,R,e,am,q⟩:=c1191 W g c af;simp only[go_sem,d4,d0,di,ak,n,k,i1,i0,ay,l0,l1];rcases q with⟨v,rfl,M4,cc,bv,s4,g4,aq,a0,rfl⟩|rfl
     ·have i:=((HK.m kk).trans (HK.m (B:=B) (B1:=B1) N)).trans am;have b5:=(am.kw _ o_ (.inr (.inl o_))).trans ak;have Y:=(am.kw _ o_ (.inr (.inl o_))).trans C;cases ho:occ tf 0 with
      |true=>
       rw[ho]at e;simp only[go_sem,e];refine fin _ R M4 cc bv k_ k_ s4 g4 aq a0 i Y (d λf' v' q1 D _ _=>?_);rw[Q]at D;have L:=D;rw[y]at L;cases L;exact ho
      |false=>
       rw[ho]at e;have⟨o,_,e5,be,q⟩:=WQ s4 g4 (a0.ct c) (aq.at af) (b:=-1) o_;simp only[go_sem,e,b5,k,i0];have ah:qQ (ndT nv I)=cZ (-1) tf 0:=by
        have w0:kw=[]:=by
         rw[ew]at Z;unfold ndT TOK at Z;have:=Z.1.K;rw[h0]at this;exact List.length_eq_zero_iff.1 (by simpa [cN] using this)
        unfold ndT;rw[h5,et];refine Kz (v:=tv) ?_ ?_ ?_ ?_ ho
        ·rw[Q];unfold ndT;rw[h4,y];rfl
        ·rw[ew];exact h0
        ·rw[ew];exact hi
        rw[ew];exact w0
       rcases q with⟨v,rfl,M5,b0,ch,s5,g5,bm,bw,r,rfl,a⟩|rfl
       ·simp only[go_sem,e5];exact iX (.inr rfl) (by simp only[go_sem,Fh]) (i.trans be) ⟨M5,b0,ch,s5,g5,aq.trans bm,a0.trans bw,r,rfl,by rw[ah];exact a⟩
       simp only[go_sem,e5];exact cP (i.trans be)
     simp only[go_sem,e];exact cP (((HK.m kk).trans (HK.m N)).trans am)
    have di:=D_ hi;simp only[go_sem,d4,d0,di,ak,n,k,i1,ay,l0,l1];refine fin _ F M gN gF k_ k_ W g (Le.refl M) (Sv.refl c) ((HK.m kk).trans (HK.m N)) C (d λf' v' _ D _ X=>?_);rw[Q]at D;have L:=D;rw[y]at L;cases L;rw[ew]at X;cases hi X
   have d0:=D_ h0;simp only[go_sem,d4,d0,ak,n,k,i1,ay,l0];refine fin _ F M gN gF k_ k_ W g (Le.refl M) (Sv.refl c) ((HK.m kk).trans (HK.m N)) C (d λf' v' _ D X _=>?_);rw[Q]at D;have L:=D;rw[y]at L;cases L;rw[ew]at X;cases h0 X
  have d4:=D_ h4;simp only[go_sem,d4];exact fin _ F M gN gF k_ k_ W g (Le.refl M) (Sv.refl c) ((HK.m kk).trans (HK.m N)) C (d λf v q=>absurd (by rw[Q]at q;exact q) h4)
 have d5:=D_ h5;by_cases h8:nv.D=8
 ·have d8:=T_ h8;have⟨z,a,b,_,ta,tb,ek,et,_,aa,ab⟩:=acM lk (by rw[h8]at j;simp[cN]at j;omega);have⟨na,_,aw,ea,a7,_,bi,_⟩:=g.at_node aa;have⟨nb,_,t,Q,U,_,O,_⟩:=g.at_node ab;obtain⟨an,rfl,_⟩:=aa.nat;obtain⟨bn,rfl,_⟩:=ab.nat;rw[G_]at aw t;have cf:=(E_.1 aw).1;have a2:=(E_.1 t).1;have i1:∀(a:Int) (b:Int) (c:Int),bW (.ls [.I a,.I b,.I c]) 1 (.I 1)=some (.vp (.I b)):=λ_ _ _=>rfl;have i2:∀(a:Int) (b:Int) (c:Int),bW (.ls [.I a,.I b,.I c]) 1 (.I 2)=some (.vp (.I c)):=λ_ _ _=>rfl;have V:AV.eI nv.K=.ls [.I z,.I an,.I bn]:=by rw[ek];rfl
  have⟨H1,cg,k1,a3,b3⟩:=nw H (.box zT);have⟨G,l⟩:∃G:AH,G=H1.new (.box zT):=⟨_,rfl⟩;have k2:HK H G:=by rw[l];exact k1.add _
  have ag:=k2.up g3;have s2:=sH.hk k2;have J:=s2.gA;have ca:G.get H.z=some (.box zT):=by rw[l,aM o_];exact b3
  have cb:G.get (H.z+1)=some (.box zT):=by rw[l,<-a3,aD]
  have bb:G.z=H.z+2:=by rw[l,aB,a3]
  have b8:=s2.addr cf;have a5:=s2.addr a2;have bf:=(s2.cell aw).l5;have ai:=(s2.cell t).l5;have⟨F,m⟩:∃F:AH,F=G.set H.z (.box (n_ na)):=⟨_,rfl⟩;have N:HK H F:=by rw[m];exact k2.set _ o_
  have W:=sH.hk N;have n:=W.gA;have C:=N.up g3;have a6:=(W.cell t).l5;have ce:F.get (H.z+1)=some (.box zT):=by rw[m,aA o_];exact cb
  have⟨R,ac⟩:∃R:AH,R=F.set (H.z+1) (.box (n_ nb)):=⟨_,rfl⟩;have k4:HK H R:=by rw[ac];exact N.set _ o_
  have s4:=sH.hk k4;have Y:=k4.up g3;have a4:R.get H.z=some (.box (n_ na)):=by rw[ac,aA o_,m,aF]
  have al:R.get (H.z+1)=some (.box (n_ nb)):=by rw[ac,aF]
  unfold kj at J n;unfold bU at bf ai a6;simp only[go_sem,d5,d8];rw[<-cg,<-l];simp only[go_sem,ag,J,V,i1,i2,b8,a5,bf,ai,ca];rw[<-m];simp only[go_sem,C,n,a6,ce,V];rw[<-ac];have b9:tj (okV (aI (G.get A.kN) λo=>loadAt o true 5 gN (bn*5)) G) (.agg (n_ nb))=true:=by
   have w:(aI (G.get A.kN) λo=>loadAt o true 5 gN (bn*5))=_:=ai;rw[w];exact gQ _
  simp only[go_sem,a4,b9,ag,J,V];have i:=(HK.m kk).trans (HK.m (B:=B) (B1:=B1) k4);have d:(∀p q,ta.D=9->ta.K=[p]->tb.D=10->tb.K=[q]->p≠q)->qQ (ndT nv I)=ndT nv I:=λq=>by
   unfold ndT;rw[h8,et];exact Ky q
  by_cases h9:na.D=9
  ·have d9:=T_ h9;by_cases P:nb.D=10
   ·have ad:=T_ P;have a1:=bi;rw[ea]at a1;unfold ndT TOK at a1;have a9:=a1.1.K;rw[<-a7.len,h9]at a9;have u:=O;rw[Q]at u;unfold ndT TOK at u;have S:=u.1.K;rw[<-U.len,P]at S;have⟨p,tp,br,ah,ap⟩:=agN a7 (by simp[cN]at a9;omega);have⟨r,_,au,y,ar⟩:=agN U (by simp[cN]at S;omega);have ao:AV.eI na.K=.ls [.I p]:=by rw[br];rfl
    have k:AV.eI nb.K=.ls [.I r]:=by rw[au];rfl
    have i0:∀(a:Int),bW (.ls [.I a]) 1 (.I 0)=some (.vp (.I a)):=λ_=>rfl;by_cases he:p=r
    ·have de:=T_ he;simp only[go_sem,d9,ad,a4,al,ao,k,i0,de];have eq:qQ (ndT nv I)=tp:=by
      subst he;have:=ap.det ar;subst this;unfold ndT;rw[h8,et];refine Kx ?_ ?_
      ·rw[ea];unfold ndT;rw[h9,ah];rfl
      rw[Q];unfold ndT;rw[P,y];rfl
     exact iX (.inr rfl) (by simp only[go_sem,Fh]) i ⟨M,gN,gF,s4,g,Le.refl M,Sv.refl c,p,rfl,by rw[eq];exact ap⟩
    have de:=D_ he;simp only[go_sem,d9,ad,a4,al,ao,k,i0,de];refine fin _ R M gN gF k_ k_ s4 g (Le.refl M) (Sv.refl c) i Y (d λp' q' _ D _ X w=>he ?_);rw[ea]at D;rw[Q]at X;have D:=D;have X:=X;rw[ah]at D;rw[y]at X;cases D;cases X;subst w;exact ap.inj g.nd ar
   have ad:=D_ P;simp only[go_sem,d9,ad,al];exact fin _ R M gN gF k_ k_ s4 g (Le.refl M) (Sv.refl c) i Y (d λp' q' _ _ L _=>absurd (by rw[Q]at L;exact L) P)
  have d9:=D_ h9;simp only[go_sem,d9];exact fin _ R M gN gF k_ k_ s4 g (Le.refl M) (Sv.refl c) i Y (d λp' q' q1 _ _ _=>absurd (by rw[ea]at q1;exact q1) h9)
 have d8:=D_ h8;simp only[go_sem,d5,d8];exact fin _ H M gN gF k_ k_ sH g (Le.refl M) (Sv.refl c) (HK.m kk) g3 (wJ h5 h8)
end
theorem XH (p:Bool):∀(a:List T) (i:Nat) (t:T),a[i]?=some t->(shs p a)[i]?=some (if p=true/\i=0 then fQ else sh t)
 |[],_,_,h=>by simp at h
 |x::l,0,t,h=>by
  simp at h;subst h;rw[shs];cases p<;>simp
 |x::l,i+1,t,h=>by
  simp at h;rw[shs,List.getElem?_cons_succ,vD,List.getElem?_map,h];simp
theorem DJ (p:Bool):∀a:List T,(shs p a).length=a.length
 |[]=>by rw[shs]
 |x::l=>by rw[shs,M_,DJ false l,M_]
def Si (M:Ms)(S:List (Int×Int)):Prop:=∀e∈S,∃t,At M.ts e.1 t/\At M.ts e.2 (sh t)
def Y5 (B:Nat)(M:Ms)(h:AH):Prop:=∃S,h.get (B+5)=some (.map (mpg AG.bh AG.bh S))/\Si M S
theorem Db (B:Nat):Yi B (Y5 B):=λM d h c ⟨S,a,b⟩ le _ e=>⟨S,e.trans a,λx hx=>by
 have⟨t,p,q⟩:=b x hx;exact⟨t,le.at p,le.at q⟩⟩
section
variable {K:aN}{A:Ma}{B B1:Nat}{E:AV}{M:Ms}{gN gF:Nat}{h:AH}
theorem St.memo (s:St A B B1 E M gN gF h)(o:dF)(hk:k=B+4\/k=B+5):St A B B1 E M gN gF (h.set k o):=by
 have⟨_,_,_,_,_,_⟩:=s.ok.rng;exact⟨s.ok,by rw[aA o_];exact s.gA,by rw[aA o_];exact s.gI,by rw[aA o_];exact s.gN,by rw[aA o_];exact s.gF,by rw[aA o_];exact s.gW,by rw[aA o_];exact s.gM,by rw[aE];exact s.b1⟩
theorem Vt [RunsM K][b:KM K](s:St A B B1 E M gN gF h)(g:Wg M):Mc K A B B1 E (63) [] [.P A.a,.I 1,.nl] M h λa v=>Px fQ M a v:=by
 have tk:TOK fQ:=by
  unfold fQ TOK;exact⟨⟨by decide,by decide,rfl,by decide,by decide,λ_ _=>rfl,by simp[bs],by decide,λ_=>rfl,⟨by decide,by decide,λ_ _=>rfl⟩,by simp⟩,trivial⟩
 exact Ga (h:=h) (FM s g 1 [] [] trivial tk) (ae (bS _ _ _ _) (ae (aL _ _ _) (ae (dL _) (aH _)))) (ae (bS _ _ _ _) (ae (aL _ _ _) (ae (eQ [] _) (aH _)))) (HM.refl h)
structure J1116 (A:Ma)(B B1:Nat)(E:AV)(M:Ms)(nv:NV)(ks:List T)(b7 kk:Nat)(h0 h:AH)(M':Ms)(gN gF:Nat)(dn:List Int)(p:Nat):Prop where
 gs:Gw A B B1 (·=B+5) E (Y5 B) M h0 h M' gN gF
 sv:Sv M M'
 g7:h.get b7=some (.box (n_ nv))
 row:h.get kk=some (.row 0 1 false (bJ ((dn++List.replicate (nv.K.length-p) 0).map AG.bh)) 0)
 lk:Lk M'.ts dn ((shs (decide (nv.D=5\/nv.D=8)) ks).take p)
 pl:p<=nv.K.length
 nx:kk<h.z
 dl:dn.length=p
def acA (A:Ma)(B B1:Nat)(E:AV)(M:Ms)(a:NV)(g:List T)(x:Int)(b7 b:Nat)(d:AH)(j:Nat)(f:AF)(h:AH):Prop:=∃tm p e gN gF c,p+j=a.K.length/\f=F_ 116 tm/\
 nth tm 0=.P A.a/\nth tm 1=.I x/\nth tm 7=.P b7/\nth tm 8=.row b 0 1 0 a.K.length/\nth tm 38=.eI a.K/\nth tm 39=.I (a.K.length:Int)/\nth tm 40=.I (p:Int)/\
 J1116 A B B1 E M a g b7 b d h e gN gF c p
theorem c1116 [RunsM K][km:KM K]:∀(n:Nat) (M:Ms) (gN gF:Nat) (h:AH) (t:T),St A B B1 E M gN gF h->Wg M->Ct M->At M.ts (n:Int) t->Y5 B M h->
  Co K B B1 (·=B+5) (116) [] [.P A.a,.I (n:Int)] h λv h'=>Gq A B B1 E M h' λM'=>Pv (sh t) M M' v/\Y5 B M' h':=by
 intro n;induction n using Nat.strongRecOn with
 |_ n ih=>
 intro M gN gF h t s g c hx y;have b1:=s.b1;have U:=s.ok.us;have nU:∀{k:Nat},B1<=k->¬k=B+5:=λa=>by omega
 refine KP aeX ?_;have gA:=s.gA;obtain⟨S,gS,si⟩:=y;have bi:h.get A.kS=some (.map (mpg AG.bh AG.bh S)):=by rw[U.2.1];exact gS
 have cc:=λz=>ki (kf:=AG.bh) (t:=1) AG.bh dw bi (n:Int) z true;unfold kj at gA;have a0:∀z,iq h 1 z true (.map A.kS) (.I (n:Int))=_:=cc;simp only[go_sem,gA,a0];cases hw:lkg S (n:Int) with
 |some o=>
  obtain⟨t',a1,a2⟩:=si _ (qH hw);have:=hx.det a1;subst this;simp only[go_sem,AG.bh];exact xY (.inr rfl) (by simp only[go_sem,QD]) (HX.refl h) ⟨M,gN,gF,s,g,Le.refl M,⟨Sv.refl c,o,rfl,a2⟩,S,gS,si⟩
 |none=>
  obtain⟨o1,H1,e1,ab,q1⟩:=Bz (h:=h) s g c;simp only[go_sem];rcases q1 with⟨v,rfl,rfl,M1,bm,ce,s1,g1,aw,bf,bw⟩|rfl
  ·have y1:Y5 B M1 H1:=(Db B).hm ⟨S,gS,si⟩ s aw ab;have br:M1.ns=M.ns:=by rw[bf]
   clear bf;obtain⟨b,ks,hn,ap,am,b4,tok,_⟩:=g.at_node hx;have hn:M1.ns[n]?=some b:=by rw[br];simpa using hn
   have hj:=(E_.1 hn).1;have ad:=s1.addr hj;have a6:=s1.gA;have l5:=(s1.cell hn).l5;unfold kj at a6;unfold bU at l5;simp only[go_sem,e1,a6,ad,l5];obtain⟨I,av,k2,cr,g7⟩:=ns H1 (.box zT) (.box (n_ b));rw[<-av];clear av;have ck:=ab.z;have O:=tok;rw[ap]at O;unfold ndT TOK at O;have m:=O.1.K;rw[<-am.len]at m;have cq:b.K.length<=3:=by
    unfold cN at m;split at m
    ·omega
    split at m
    ·omega
    split at m<;>omega
   have a3:=El b.K.length o_ I;obtain⟨H3,aa,k3,_⟩:=nw I (.row 0 1 false (bJ ((List.replicate b.K.length (0:Int)).map AG.bh)) 0);rw[<-aa]at a3;have a9:=k3.up g7;have be:H3.get I.z=some (.row 0 1 false (bJ ((List.replicate b.K.length (0:Int)).map AG.bh)) 0):=by rw[aa,aD]
   have cl:H3.z=I.z+1:=by rw[aa,aB]
   clear aa;have an:=k2.trans k3;simp only[go_sem,a3,a9];refine bo (acA A B B1 E M b ks n H1.z I.z h) b.K.length o_ ⟨_,0,M1,bm,ce,[],o_,rfl,k_,k_,k_,k_,k_,k_,y_,
    ⟨⟨s1.hk an,g1,aw,ab.x.trans (HK.m an).x,(Db B).hm y1 s1 (Le.refl M1) (HK.m an)⟩,bw,a9,by simpa using be,trivial,o_,o_,rfl⟩⟩ ?_
   rintro j fr H4 ⟨tm,p,M4,a7,au,dn,hp,rfl,t0,t1,Y,P,F,W,D,J⟩;have bk:=J.nx;have dl:=J.dl;have Q:=J.g7;have ch:=J.gs.hm.z;simp only[go_sem,W,D];refine aU (λL=>?_) (λcg=>?_)
   ·have L:p<b.K.length:=o_;have i:=a_ L;obtain⟨yt,ey,ay⟩:=am.get i;obtain⟨cn,ec,cs⟩:=ay.nat;have bx:cn<n:=by have:=b4 _ (m_ i);omega
    rw[ec]at i ay;have ag:=aP p o_;have af:=jf (kk:=I.z) (g:=0) (sz:=1) L .i64;have eg:=XH (decide (b.D=5\/b.D=8)) ks p yt ey;have put:∀(x:Tm) (C:AH) (G:Ms) (l w:Nat) (r:Int) (u:T),(shs (decide (b.D=5\/b.D=8)) ks)[p]?=some u->nth x 0=.P A.a->nth x 1=.I n->nth x 7=.P H1.z->nth x 8=.row I.z 0 1 0 b.K.length->nth x 38=.eI b.K->nth x 39=.I (b.K.length:Int)->nth x 40=.I ((p+1:Nat):Int)->
      St A B B1 E G l w C->Wg G->Le M4 G->Sv M4 G->HX B B1 (·=B+5) H4 C->Y5 B G C->At G.ts r u->
      acA A B B1 E M b ks n H1.z I.z h (j-1) (F_ 116 x) (C.set I.z (.row 0 1 false (bJ ((dn++[r]++List.replicate (b.K.length-(p+1)) 0).map AG.bh)) 0)):=by
     intro x C G l w r u eu q0 q1 q7 q8 b0 b5 bq b3 g5 f V d y5 a5;have ci:=d.z;refine⟨x,p+1,G,l,w,dn++[r],o_,rfl,q0,q1,q7,q8,b0,b5,bq,⟨⟨b3.set _ o_,g5,J.gs.le.trans f,(J.gs.hm.trans d).set _ (.inl o_),(Db B).set y5 _ o_⟩,J.sv.trans V,?_,aF _ _ _,?_,o_,by rw[aE];omega,by simp[dl]⟩⟩
     ·rw[aA o_];exact(d.kw _ o_ (.inr (.inl o_)) (nU o_)).trans Q
     rw[Z_,eu,Option.toList_some];exact(f.lk J.lk).snoc a5
    have ah:∀(C:AH) (r:Int),HX B B1 (·=B+5) H4 C->cY (.ptr I.z 0 (p*1)) C 1 (.I r)=some (C.set I.z (.row 0 1 false (bJ ((dn++[r]++List.replicate (b.K.length-(p+1)) 0).map AG.bh)) 0)):=by
     intro C r d;have N:=(d.kw _ o_ (.inr (.inl o_)) (nU o_)).trans J.row;have ar:=rM (x:=AG.bh r) (a:=p) N (ng _) (by simp[dl];omega) rfl rfl;rw[<-List.map_set,Kh dn _ p r dl L]at ar;exact ar
    by_cases R:p=0/\(b.D=5\/b.D=8)
    ·have dp:decide ((p:Int)=0)=true:=t_;have X:(shs (decide (b.D=5\/b.D=8)) ks)[p]?=some fQ:=by rw[eg,P_ ⟨T_ R.2,R.1⟩]
     obtain⟨o5,C,Z,d,q5⟩:=Vt J.gs.st J.gs.g;by_cases h5:b.D=5
     ·have d5:=T_ h5;simp only[go_sem,t0,Y,P,F,D,i,Q,dp,d5];rcases q5 with⟨v,rfl,G,l,w,s5,g5,f,al,r,rfl,a5⟩|rfl
      ·have es:=ah C r d.x;simp only[go_sem,Z,af,es,D,ag];exact⟨j-1,o_,put _ C G l w r _ X (q_ t0) (q_ t1) (q_ Y) (q_ P) (q_ F) (q_ W) k_ s5 g5 f (al.v (J.sv.ct c)) d.x ((Db B).hm J.gs.y J.gs.st f d) a5⟩
      simp only[go_sem,Z];exact fF (J.gs.hm.trans d.x)
     have d5:=D_ h5;have d8:=T_ (R.2.resolve_left h5);simp only[go_sem,t0,Y,P,F,D,i,Q,dp,d5,d8];rcases q5 with⟨v,rfl,G,l,w,s5,g5,f,al,r,rfl,a5⟩|rfl
     ·have es:=ah C r d.x;simp only[go_sem,Z,af,es,D,ag];exact⟨j-1,o_,put _ C G l w r _ X (q_ t0) (q_ t1) (q_ Y) (q_ P) (q_ F) (q_ W) k_ s5 g5 f (al.v (J.sv.ct c)) d.x ((Db B).hm J.gs.y J.gs.st f d) a5⟩
     simp only[go_sem,Z];exact fF (J.gs.hm.trans d.x)
    have X:(shs (decide (b.D=5\/b.D=8)) ks)[p]?=some (sh yt):=by rw[eg,N_ λq=>R ⟨q.2,O_ q.1⟩]
    obtain⟨o5,C,Z,d,q5⟩:=ih cn bx M4 a7 au H4 yt J.gs.st J.gs.g (J.sv.ct c) (J.gs.le.at ay) J.gs.y;by_cases bd:p=0
    ·have dp:decide ((p:Int)=0)=true:=t_;have d5:decide (b.D=5)=false:=D_ λq=>R ⟨bd,.inl q⟩;have d8:decide (b.D=8)=false:=D_ λq=>R ⟨bd,.inr q⟩;simp only[go_sem,t0,Y,P,F,D,i,Q,dp,d5,d8];rcases q5 with⟨v,rfl,G,l,w,s5,g5,f,⟨V,r,rfl,a5⟩,y5⟩|rfl
     ·have es:=ah C r d;simp only[go_sem,Z,af,es,D,ag];exact⟨j-1,o_,put _ C G l w r _ X (q_ t0) (q_ t1) (q_ Y) (q_ P) (q_ F) (q_ W) k_ s5 g5 f V d y5 a5⟩
     simp only[go_sem,Z];exact fF (J.gs.hm.trans d)
    have dp:decide ((p:Int)=0)=false:=d_;simp only[go_sem,t0,P,F,D,i,dp];rcases q5 with⟨v,rfl,G,l,w,s5,g5,f,⟨V,r,rfl,a5⟩,y5⟩|rfl
    ·have es:=ah C r d;simp only[go_sem,Z,af,es,D,ag];exact⟨j-1,o_,put _ C G l w r _ X (q_ t0) (q_ t1) (q_ Y) (q_ P) (q_ F) (q_ W) k_ s5 g5 f V d y5 a5⟩
    simp only[go_sem,Z];exact fF (J.gs.hm.trans d)
   have b9:p=b.K.length:=by have:=J.pl;omega
   subst b9;have N:=J.row;rw[Nat.sub_self,List.replicate_zero,A_]at N;have aj:=J.lk;rw[am.len,l_ (by rw[DJ];exact e_ _)]at aj;obtain⟨H6,H⟩:∃H6:AH,H6=H4.set H1.z (.box [.I b.D,.I b.X,.str b.N,.eL b.L,.row I.z 0 1 0 b.K.length]):=⟨_,rfl⟩;have g6:H6.get H1.z=some (.box [.I b.D,.I b.X,.str b.N,.eL b.L,.row I.z 0 1 0 b.K.length]):=by rw[H,aF]
   have ax:H6.get I.z=some (.row 0 1 false (bJ (dn.map AG.bh)) 0):=by rw[H,aA o_];exact N
   obtain⟨H7,b2,n7,k7⟩:=AJ b.D b.X b.N b.L dn (by rw[dl]) ax (by rw[H,aE];exact bk);have o6:∀k,k≠H1.z->k≠I.z->H7.get k=H4.get k:=λk q1 q2=>by rw[k7 k q2,H,aA q1]
   have co:H7.z=H4.z:=by rw[n7,H,aE]
   have s7:St A B B1 E M4 a7 au H7:=J.gs.st.up o_ λk _ q=>o6 k o_ o_;have aq:HX B B1 (·=B+5) h H7:=⟨o_,λk q1 q2 q3=>by rw[o6 k o_ o_];exact J.gs.hm.kw k q1 q2 q3⟩;have y7:Y5 B M4 H7:=Db B _ _ _ _ J.gs.y (Le.refl _) (o6 _ o_ o_) (o6 _ o_ o_);have a4:TOK (ndT ⟨b.D,b.X,b.N,b.L,dn⟩ (shs (decide (b.D=5\/b.D=8)) ks)):=by
    unfold ndT TOK;refine⟨by rw[DJ];exact O.1,dh.2 λt ht=>?_⟩;obtain⟨j,hj⟩:=J_ ht;obtain⟨c',_,ac⟩:=aj.get' hj;exact J.gs.g.atok ac
   obtain⟨o8,H8,e8,ak,q8⟩:=c1156 s7 J.gs.g (J.sv.ct c) (nv:=⟨b.D,b.X,b.N,b.L,dn⟩) aj a4;rw[<-dJ (f:=156) (c:=[]) (ae (bS A.a 0 0 H6) (ae b2 (aH _))) (ae (bS _ _ _ _) (ae (wi _ _) (aH _)))]at e8;have b8:qQ (ndT ⟨b.D,b.X,b.N,b.L,dn⟩ (shs (decide (b.D=5\/b.D=8)) ks))=sh t:=by
    rw[ap];unfold ndT;rw[sh]
   rw[b8]at q8;simp only[go_sem,P,Y,Q];rw[<-H];clear H;simp only[go_sem,t0];rcases q8 with⟨v,rfl,M8,cf,ca,ao,g8,ai,bg,r,rfl,a8⟩|rfl
   ·obtain⟨S8,cb,bv⟩:=(Db B).hm y7 s7 ai ak;have az:H8.get A.kS=some (.map (mpg AG.bh AG.bh S8)):=by rw[U.2.1];exact cb
    have bl:iR H8 1 (.map A.kS) (.I (n:Int)) (.I r)=_:=lS (kf:=AG.bh) (t:=1) AG.bh dw az (n:Int) r;have bb:=ao.gA;unfold kj at bb;simp only[go_sem,e8,t0,t1,bb,bl];refine xY (.inr rfl) (by simp only[go_sem,QD]) ((aq.trans ak.x).set _ (.inr U.2.1)) ⟨M8,cf,ca,?_,g8,J.gs.le.trans ai,⟨J.sv.trans bg,r,rfl,a8⟩,stg S8 n r,?_,?_⟩
    ·exact ao.memo _ (.inr U.2.1)
    ·rw[U.2.1,aF]
    intro e he;rcases stg_mem he with rfl|he
    ·exact⟨t,(J.gs.le.trans ai).at hx,a8⟩
    exact bv e he
   simp only[go_sem,e8];exact fF (aq.trans ak.x)
  simp only[go_sem,e1];exact fF ab.x
end
theorem Zh {v:T}(c:ptT C t=true)(b:Rl C (bA (cZ 1 t 0) [rD]) u)(a:Rf (ex C) u v):Rf (ex C) t (.mk 5 0 (bs []) [] [fQ,v]):=by
 have⟨n1,b⟩:=b;have⟨n2,a⟩:=a;refine⟨max n1 n2+1,?_⟩;unfold ex;rw[P_ c,show app (cZ 1 t 0) rD=bA (cZ 1 t 0) [rD] from rfl,ui (Nat.le_max_left n1 n2) b];simp only;rw[AP (Nat.le_max_right n1 n2) a]
theorem vS {n:Nat}(a:ptT C t=false)(h:parts (ex C n) t=some u):Rf (ex C) t u:=by
 refine⟨n+1,?_⟩;unfold ex;rw[a];exact h
def Fi (C:MK.Cx)(M:Ms)(F:List (Int×Int)):Prop:=∀e∈F,∃t u,At M.ts e.1 t/\At M.ts e.2 u/\Rf (ex C) t u
def Y4 (B:Nat)(C:MK.Cx)(M:Ms)(h:AH):Prop:=∃F,h.get (B+4)=some (.map (mpg AG.bh AG.bh F))/\Fi C M F
theorem ug (B:Nat)(C:MK.Cx):Yi B (Y4 B C):=λM d h c ⟨F,a,b⟩ le e _=>⟨F,e.trans a,λx hx=>by
 have⟨t,u,p,q,r⟩:=b x hx;exact⟨t,u,le.at p,le.at q,r⟩⟩
theorem cst_cases (env:List DV)(a:NV):(∃d,Ip env a=.tup [.agg d,.bool false]/\d.length=9/\(a.D=3->oD env a.N a.L.length=.rigid))\/
  (∃e,a.D=3/\fG a.N env 0=some e/\e.Q=(a.L.length:Int)/\Ip env a=.tup [.agg (aY e),.bool true]):=by
 unfold Ip;by_cases hk:a.D=3
 ·rw[P_ hk];cases c:fG a.N env 0 with
  |none=>exact .inl ⟨zEl,rfl,rfl,λ_=>by unfold oD;rw[c]⟩
  |some e=>
   by_cases b:e.Q=(a.L.length:Int)
   ·exact .inr ⟨e,hk,rfl,b,by simp only[T_ b]⟩
   refine .inl ⟨aY e,by simp only[D_ b],rfl,λ_=>?_⟩;unfold oD;rw[c];simp only;rw[N_ b]
 rw[N_ hk];exact .inl ⟨zEl,rfl,rfl,λq=>absurd q hk⟩
section
variable {K:aN}{A:Ma}{B B1:Nat}{env:List DV}{M:Ms}{gN gF:Nat}{h:AH}{inst:T->List LL->Option T}
def Xq (K:aN)(A:Ma)(B B1:Nat)(E:AV)(C:MK.Cx)(c:Int):Prop:=∀(M:Ms) (gN gF:Nat) (h:AH) (x:Int) (t:T),St A B B1 E M gN gF h->Wg M->Ct M->Mem C M->c<=M.vis->At M.ts x t->Y4 B C M h->
 Co K B B1 (·=B+4) (117) [] [.P A.a,.I x] h λv b=>Gq A B B1 E M b λa=>Mx C M a/\Y4 B C a b/\∃r u,v=.I r/\At a.ts r u/\Rf (ex C) t u
theorem c1117 [RunsM K][km:KM K][kg:KG K](eg:Eg env)(ci:Ci K A B B1 (.eD env) inst):
  ∀(n:Nat) (v0:Int),(4000001-v0).toNat<=n->Xq K A B B1 (.eD env) (Ce env inst) v0:=by
 intro n;induction n with
 |zero=>
  intro v0 hn M gN gF h x t s g c be hv hx;have:=c.v1;omega
 |succ n ih=>
 intro v0 hn M gN gF h x t s g c be hv hx y;have b1:=s.b1;have W:=s.ok.us;have nU:∀{k:Nat},B1<=k->¬k=B+4:=λa=>by omega
 refine KP aeW ?_;have gA:=s.gA;have⟨F,gU,fi⟩:=y;have c9:h.get A.kU=some (.map (mpg AG.bh AG.bh F)):=by rw[W.1];exact gU
 have dm:=λz=>ki (kf:=AG.bh) (t:=1) AG.bh dw c9 x z true;unfold kj at gA;have cf:∀z,iq h 1 z true (.map A.kU) (.I x)=_:=dm;have fin:∀(tm:Tm) (H:AH) (P:Ms) (af Z:Nat) (r:Int) (u:T),nth tm 0=.P A.a->nth tm 1=.I x->nth tm 11=.I r->St A B B1 (.eD env) P af Z H->Wg P->Le M P->Mx (Ce env inst) M P->HX B B1 (·=B+4) h H->Y4 B (Ce env inst) P H->At P.ts r u->Rf (ex (Ce env inst)) t u->
   R_ K [.code DW] (XQ (cS K) JH (mD (PO B B1 (·=B+4) h λv h'=>Gq A B B1 (.eD env) M h' λP=>Mx (Ce env inst) M P/\Y4 B (Ce env inst) P h'/\∃r u,v=.I r/\At P.ts r u/\Rf (ex (Ce env inst)) t u))) .normal (F_ 117 tm) H:=by
  intro tm H P af Z r u t0 t1 cr st g' le mx bm y' ar wu;have⟨F8,c2,ck⟩:=y';have bv:H.get A.kU=some (.map (mpg AG.bh AG.bh F8)):=by rw[W.1];exact c2
  have co:iR H 1 (.map A.kU) (.I x) (.I r)=_:=lS (kf:=AG.bh) (t:=1) AG.bh dw bv x r;have br:=st.gA;unfold kj at br;simp only[go_sem,DW,t0,t1,cr,br,co];refine xY (.inr rfl) (by simp only[go_sem,JH]) (bm.set _ (.inr W.1)) ⟨P,af,Z,st.memo _ (.inl W.1),g',le,mx,⟨stg F8 x r,by rw[W.1,aF],λe he=>?_⟩,r,u,rfl,ar,wu⟩;rcases stg_mem he with rfl|he
  ·exact⟨t,u,le.at hx,ar,wu⟩
  exact ck e he
 simp only[go_sem,gA,cf];cases hw:lkg F x with
 |some o=>
  have⟨t',u,a1,a2,wu⟩:=fi _ (qH hw);have:=hx.det a1;subst this;simp only[go_sem,AG.bh];exact xY (.inr rfl) (by simp only[go_sem,JH]) (HX.refl h) ⟨M,gN,gF,s,g,Le.refl M,Mx.refl c be,⟨F,gU,fi⟩,o,u,rfl,a2,wu⟩
 |none=>
  have⟨_,H1,e1,l,q1⟩:=Bz (h:=h) s g c;simp only[go_sem];rcases q1 with⟨v,rfl,rfl,M1,dz,ee,s1,g1,G,b0,dl⟩|rfl
  ·have v1:M1.vis=M.vis+1:=by rw[b0]
   have y1:=(ug B (Ce env inst)).hm ⟨F,gU,fi⟩ s G l;have E:=dl.mx c be G;clear b0;obtain⟨v,_,e2,⟨_,_,rfl,ah,c8,_⟩,k2⟩:=JW s1 g1 x t (G.at hx);have s2:=s1.hk k2;obtain⟨b9,rfl,_⟩:=ah.nat;have⟨nv,_,aj,dn,_,_,_,_⟩:=g1.at_node ah;have aj:M1.ns[b9]?=some nv:=by simpa using aj
   have hj:=(E_.1 aj).1;have ad:=s2.addr hj;have ce:=s2.gA;have l5:=(s2.cell aj).l5;obtain⟨v,H3,e3,rfl,k3⟩:=abQ s2 nv eg.ds eg.len;unfold kj at ce;simp only[go_sem,e1,e2,ce,ad,l5,e3];have y3:=(ug B (Ce env inst)).hm y1 s1 (Le.refl M1) (HK.m (B:=B) (B1:=B1) (k2.trans k3));have d0:=l.z;have ed:=k2.z;have d2:=k3.z;have a0:ptT (Ce env inst) t=(nv.D=3&&match oD env nv.N nv.L.length with
     |.fn a3 _=>decide ((aT t).2.length<a3)
     |_=>false):=by
    unfold ptT;rw[dn];rfl
   have hf:Fn1 K A B B1 (·=B+4) (.eD env) (Ce env inst) (M.vis+1) (.fn 117 [.P A.a] []) (ex (Ce env inst)) (Y4 B (Ce env inst)):=by
    intro P af Z h' x' t' s' g' c' ch cl bm y';have⟨o,h2,e,q⟩:=ih (M.vis+1) (by have:=c.v0;omega) P af Z h' x' t' s' g' c' ch cl bm y';refine⟨o,h2,?_,q⟩;rw[Vm (ae (aL _ _ _) (aH _)) (ae (bS _ _ _ _) (ae (aL _ _ _) (aH _)))];exact e
   have rest:ptT (Ce env inst) t=false->∀H4:AH,HK H1 H4->Co K B B1 (·=B+4) (73) [] [.P A.a,.I x,.fn 117 [.P A.a] []] H4 λv h'=>Gq A B B1 (.eD env) M1 h' λP=>Mx (Ce env inst) M1 P/\Y4 B (Ce env inst) P h'/\∃r u n,v=.I r/\At P.ts r u/\parts (ex (Ce env inst) n) t=some u:=λQ H4 D=>
    abW (λn t u q=>MU n t u q) (λk q=>by omega) (ug B _) hf (λh=>by rw[jd];simp[AV.norm,AV.norms]) (s1.hk D) g1 E.ct E.mem o_ (G.at hx) ((ug B _).hm y1 s1 (Le.refl M1) (HK.m (B:=B) (B1:=B1) D))
   have bq:∀cs:List AV,HK H1 ((H3.new (.box zE)).set H3.z (.box cs)):=λcs=>(k2.trans k3).trans ((HK.new _ _).set _ (e_ _));rcases cst_cases env nv with⟨cs,ec,cn,cc⟩|⟨e,dk,a4,aq,ec⟩
   ·rw[ec];have Q:ptT (Ce env inst) t=false:=by
     rw[a0];by_cases hk:nv.D=3
     ·rw[cc hk];exact Bool.and_false _
     rw[D_ hk];rfl
    have N:=aS (h:=H3.new (.box zE)) (vs:=cs) (sz:=9) (aD _ _) rfl cn;have D:=bq cs;unfold zE at N D;have⟨o5,H5,O,m,S⟩:=rest Q _ D;simp only[go_sem,N];rcases S with⟨v,rfl,M5,I,J,C,g5,w,b,Y,r5,u5,k5,rfl,R,p5⟩|rfl
    ·simp only[go_sem,O];exact fin _ H5 M5 I J r5 u5 k_ k_ k_ C g5 (G.trans w) (E.trans b) ((l.x.trans (HK.m D).x).trans m) Y R (vS Q p5)
    simp only[go_sem,O];exact fF ((l.x.trans (HK.m D).x).trans m)
   rw[ec];have ent:=jm env env 0 e (λj=>by rw[z_]) a4;have N:=aS (h:=H3.new (.box zE)) (vs:=aY e) (sz:=9) (aD _ _) rfl rfl;have D:=bq (aY e);have⟨_,cb,_,_,g9⟩:=ns H3 (.box zE) (.box (aY e));rw[<-cb]at N D;clear cb;unfold zE at N;have L:∀k n i p ty,e=⟨k,n,i,p,ty⟩->k≠6->ptT (Ce env inst) t=false:=by
    intro k n i p ty he hk;subst he;rw[a0];unfold oD;rw[a4];simp only;rw[P_ aq];cases env[(n:Int).toNat]? with
    |none=>exact Bool.and_false _
    |some d=>
     simp only;rw[N_ hk];split
     ·rename_i q;split at q
      ·cases q
      split at q<;>cases q
     exact Bool.and_false _
   cases ent with
   |plain k n d p t h1 h2 h3=>
    have Q:=L _ _ _ _ _ rfl o_;have d6:decide (k=6)=false:=d_;unfold aY at g9;have⟨o5,H5,O,m,S⟩:=rest Q _ D;simp only[go_sem,N,g9,d6];rcases S with⟨v,rfl,M5,I,J,C,g5,w,b,Y,r5,u5,k5,rfl,R,p5⟩|rfl
    ·simp only[go_sem,O];exact fin _ H5 M5 I J r5 u5 k_ k_ k_ C g5 (G.trans w) (E.trans b) ((l.x.trans (HK.m D).x).trans m) Y R (vS Q p5)
    simp only[go_sem,O];exact fF ((l.x.trans (HK.m D).x).trans m)
   |ctor n j d ct p h1 h2 h3=>
    have Q:=L _ _ _ _ _ rfl o_;unfold aY at g9;have⟨o5,H5,O,m,S⟩:=rest Q _ D;simp only[go_sem,N,g9];rcases S with⟨v,rfl,M5,I,J,C,g5,w,b,Y,r5,u5,k5,rfl,R,p5⟩|rfl
    ·simp only[go_sem,O];exact fin _ H5 M5 I J r5 u5 k_ k_ k_ C g5 (G.trans w) (E.trans b) ((l.x.trans (HK.m D).x).trans m) Y R (vS Q p5)
    simp only[go_sem,O];exact fF ((l.x.trans (HK.m D).x).trans m)
   |rcr n d p t h1 h2=>
    have Q:=L _ _ _ _ _ rfl o_;unfold aY at g9;have⟨o5,H5,O,m,S⟩:=rest Q _ D;simp only[go_sem,N,g9];rcases S with⟨v,rfl,M5,I,J,C,g5,w,b,Y,r5,u5,k5,rfl,R,p5⟩|rfl
    ·simp only[go_sem,O];exact fin _ H5 M5 I J r5 u5 k_ k_ k_ C g5 (G.trans w) (E.trans b) ((l.x.trans (HK.m D).x).trans m) Y R (vS Q p5)
    simp only[go_sem,O];exact fF ((l.x.trans (HK.m D).x).trans m)
   |fn n j d f p h1 h2 h3=>
    have dg:=eg.dg d (m_ h1);have⟨_,_,_⟩:=dg.F f (m_ h3);have⟨an,ca⟩:∃an:Nat,f.a=an:=⟨f.a.toNat,o_⟩;have bg:ptT (Ce env inst) t=decide ((aT t).2.length<an):=by
     rw[a0,T_ dk];unfold oD;rw[a4];simp only[Bool.true_and];rw[P_ aq,G_,h1];simp only;rw[N_ (by decide),N_ (by decide),P_ trivial,G_,h3];simp only;rw[ca,G_]
    rw[<-c8.len]at bg;have ha:=aR encD_len h1 .i64;have hb:=aR encFn_len h3 .i64;have b5:cy (.vp (.agg (iw f))) 6 1 false=some (.vp (.I f.a)):=rfl;rw[bX]at ha;rw[AA]at hb;rw[ca]at b5;have s4:=s1.hk D;have b8:=s4.gA;unfold kj at b8;unfold aY at g9;simp only[go_sem,N,g9,b8,ha,hb,b5];have y4:=(ug B (Ce env inst)).hm y1 s1 (Le.refl M1) (HK.m (B:=B) (B1:=B1) D);refine aU (λdb=>?_) (λdv=>?_)
    ·have Q:ptT (Ce env inst) t=true:=by rw[bg];exact t_
     have X:=l.trans (HK.m (B:=B) (B1:=B1) D);have⟨o5,H5,O,ao,S⟩:=WQ s4 g1 E.ct (G.at hx) (b:=1) o_;simp only[go_sem];rcases S with⟨v,rfl,M5,I,J,C,g5,w,c4,r5,rfl,R⟩|rfl
     ·have Y:=(ug B (Ce env inst)).hm y4 s4 w ao;have b:=c4.mx E.ct E.mem w;have⟨_,H6,e6,bd,q6⟩:=EN C g5 0;rcases q6 with⟨v,rfl,M6,ej,dy,bw,g6,ai,_,_,df,r6,rfl,a6⟩|rfl
      ·have y6:=(ug B (Ce env inst)).hm Y C ai bd;have ag:=(df.v b.ct).mx b.ct b.mem ai;have⟨_,_,e7,az,q7⟩:=abX bw g6 r5 (cZ 1 t 0) (ai.at R) [r6] [rD] ⟨a6,trivial⟩ (by simp);rw[<-dJ (f:=67) (c:=[]) (ae (bS _ _ _ _) (ae (aL _ _ _) (ae (mC r6 H6) (aH _)))) (ae (bS _ _ _ _) (ae (aL _ _ _) (ae (eQ _ _) (aH _))))]at e7;simp only[go_sem,O,e6];have av:=(X.trans ao).trans bd;rcases q7 with⟨v,rfl,M7,d5,d9,b4,g7,bf,de,r7,rfl,a7⟩|rfl
       ·have y7:=(ug B (Ce env inst)).hm y6 bw bf az;have U:=(de.v ag.ct).mx ag.ct ag.mem bf;have au:=av.trans az;have⟨_,H8,e8,bb,q8⟩:=Vt b4 g7;simp only[go_sem,e7];rcases q8 with⟨v,rfl,M8,cz,cu,b3,g8,am,cx,r8,rfl,a8⟩|rfl
        ·have y8:=(ug B (Ce env inst)).hm y7 b4 am bb;have ac:=(cx.v U.ct).mx U.ct U.mem am;have aw:=au.trans bb;have dp:=((b.trans ag).trans U).trans ac |>.vis;have⟨_,H9,e9,ax,q9⟩:=ab1 eg ci 4000001 0 o_ M8 cz cu H8 r7 _ b3 g8 ac.ct ac.mem (by have:=ac.ct.v0;omega) (am.at a7);simp only[go_sem,e8];rcases q9 with⟨v,rfl,M9,dj,c1,dc,cq,ak,ap,r9,u9,rfl,a9,w9⟩|rfl
         ·have y9:=(ug B (Ce env inst)).hm y8 b3 ak ax;have V:=aw.trans ax;have dr:=ap.vis;have⟨_,Ha,ea,bi,qa⟩:=ih (M.vis+1) (by have:=c.v0;omega) M9 dj c1 H9 r9 u9 dc cq ap.ct ap.mem o_ a9 y9;simp only[go_sem,e9];rcases qa with⟨v,rfl,Ma,d7,dx,b2,ga,bk,al,ya,ra,ua,rfl,aa,wa⟩|rfl
          ·have tk:TOK (.mk 5 0 (bs []) [] [fQ,ua]):=by
            unfold TOK;refine⟨⟨by decide,by decide,rfl,by decide,by decide,λ_ _=>rfl,by simp[bs],by decide,λ_=>rfl,⟨by decide,by decide,λ_ _=>rfl⟩,by simp⟩,ga.atok ((ak.trans bk).at a8),ga.atok aa,trivial⟩
           have⟨_,Hb,eb,bl,qb⟩:=Ga (h:=Ha) (FM b2 ga 5 [r8,ra] [fQ,ua] ⟨(ak.trans bk).at a8,aa,trivial⟩ tk) (ae (bS _ _ _ _) (ae (aL _ _ _) (ae (EM r8 ra Ha) (aH _)))) (ae (bS _ _ _ _) (ae (aL _ _ _) (ae (eQ _ _) (aH _)))) (HM.refl Ha);simp only[go_sem,ea];have cg:=(((((G.trans w).trans ai).trans bf).trans am).trans ak).trans bk;have bx:=(((((E.trans b).trans ag).trans U).trans ac).trans ap).trans al;rcases qb with⟨v,rfl,Mb,dd,cv,c5,gb,ay,di,rb,rfl,ab⟩|rfl
           ·simp only[go_sem,eb];exact fin _ Hb Mb dd cv rb _ k_ k_ k_ c5 gb (cg.trans ay) (bx.trans ((di.v al.ct).mx al.ct al.mem ay)) ((V.x.trans bi).trans bl.x) ((ug B _).hm ya b2 ay bl) ab (Zh Q w9 wa)
           simp only[go_sem,eb];exact fF ((V.x.trans bi).trans bl.x)
          simp only[go_sem,ea];exact fF (V.x.trans bi)
         simp only[go_sem,e9];exact fF (aw.trans ax).x
        simp only[go_sem,e8];exact fF (au.trans bb).x
       simp only[go_sem,e7];exact fF (av.trans az).x
      simp only[go_sem,O,e6];exact fF ((X.trans ao).trans bd).x
     simp only[go_sem,O];exact fF (X.trans ao).x
    have Q:ptT (Ce env inst) t=false:=by rw[bg];exact d_
    have⟨_,H5,O,m,S⟩:=rest Q _ D;simp only[go_sem];rcases S with⟨v,rfl,M5,I,J,C,g5,w,b,Y,r5,u5,k5,rfl,R,p5⟩|rfl
    ·simp only[go_sem,O];exact fin _ H5 M5 I J r5 u5 k_ k_ k_ C g5 (G.trans w) (E.trans b) ((l.x.trans (HK.m D).x).trans m) Y R (vS Q p5)
    simp only[go_sem,O];exact fF ((l.x.trans (HK.m D).x).trans m)
  simp only[go_sem,e1];exact fF l.x
def Um (B k:Nat):Prop:=k=B+4\/k=B+5
def Y45 (B:Nat)(C:MK.Cx)(M:Ms)(h:AH):Prop:=Y4 B C M h/\Y5 B M h
theorem Y5.at (y:Y5 B M h)(le:Le M c)(e:d.get (B+5)=h.get (B+5)):Y5 B c d:=by
 have⟨S,a,b⟩:=y;exact⟨S,e.trans a,λx hx=>by
  have⟨t,p,q⟩:=b x hx;exact⟨t,le.at p,le.at q⟩⟩
theorem Y4.at (y:Y4 B C M h)(le:Le M c)(e:d.get (B+4)=h.get (B+4)):Y4 B C c d:=by
 have⟨S,a,b⟩:=y;exact⟨S,e.trans a,λx hx=>by
  have⟨t,u,p,q,r⟩:=b x hx;exact⟨t,u,le.at p,le.at q,r⟩⟩
theorem abV [RunsM K][km:KM K][kg:KG K](R:Eg env)(ci:Ci K A B B1 (.eD env) inst)
  (s:St A B B1 (.eD env) M gN gF h) (g:Wg M) (c:Ct M) (Q:Mem (Ce env inst) M) (y:Y45 B (Ce env inst) M h)   (hx:At M.ts x t) :
  Co K B B1 (Um B) (76) [] [.P A.a,.I x] h λv X=>Gq A B B1 (.eD env) M X λF=>Mx (Ce env inst) M F/\Y45 B (Ce env inst) F X/\∃r u,v=.I r/\At F.ts r u/\FmT (Ce env inst) t u:=by
 have b1:=s.b1;have us:=s.ok.us;refine KP afo ?_;have⟨_,H1,W,b,q1⟩:=ab1 R ci 4000001 0 o_ M gN gF h x t s g c Q c.v0 hx;simp only[go_sem];rcases q1 with⟨v,rfl,M1,J,L,s1,g1,f,d,r1,u1,rfl,a1,n1,w1⟩|rfl
 ·have O:=y.1.at f (b.kw _ o_ (.inr (.inr (.inl rfl))));have I:=y.2.at f (b.kw _ o_ (.inr (.inr (.inr rfl))));have⟨_,Z,e2,m,q2⟩:=c1117 R ci 4000001 0 o_ M1 J L H1 r1 u1 s1 g1 d.ct d.mem d.ct.v0 a1 O;have b11:=s1.b1;have j:HX B B1 (Um B) h Z:=b.x.trans (m.le λk q=>.inl q);simp only[go_sem,W];rcases q2 with⟨v,rfl,S,C,E,T,o,l,a,p,r2,u2,rfl,V,n2,w2⟩|rfl
  ·have G:=I.at l (m.kw _ o_ (.inr (.inr (.inr rfl))) o_);obtain⟨Y,rfl,z⟩:=V.nat;have ab:=(E_.1 z).1;have ml:=o.most;have ll:=o.len;have⟨_,H3,U,i,q3⟩:=c1116 Y S C E Z u2 T o a.ct V G;have aa:=T.b1;have n:HX B B1 (Um B) h H3:=j.trans (i.le λk q=>.inr q);simp only[go_sem,e2];rcases q3 with⟨v,rfl,M3,N,H,s3,g3,e,⟨w,r3,rfl,a3⟩,P⟩|rfl
   ·have D:=p.at e (i.kw _ o_ (.inr (.inr (.inl rfl))) o_);simp only[go_sem,U];exact xY (.inr rfl) (by simp only[go_sem,Wo]) n ⟨M3,N,H,s3,g3,(f.trans l).trans e,(d.trans a).trans (w.mx a.ct a.mem e),⟨D,P⟩,r3,_,rfl,a3,n1,n2,u1,u2,w1,w2,rfl⟩
   simp only[go_sem,U];exact fF n
  simp only[go_sem,e2];exact fF j
 simp only[go_sem,W];exact fF b.x
end
section
variable {K:aN}{A:Ma}{B B1:Nat}{E:AV}{M:Ms}{gN gF:Nat}{h:AH}
theorem c1042 [RunsM K](g:Wg M):∀(n:Nat) (h:AH) (a b:Int) (x y:T),St A B B1 E M gN gF h->At M.ts a x->At M.ts b y->aO x<=n->
  Ret K (42) [.P A.a,.I a,.I b] h λv _=>∃w,v=.bool w/\(w=true<->blw n x y):=by
 intro n;induction n with
 |zero=>intro h a b x y _ _ _ hs;have:=bI x;omega
 |succ n ih=>
 intro h a b x y s ax ay hs;refine aV cf1042 ?_;have⟨na,ka,U,ex,af,_,P,_⟩:=g.at_node ax;have⟨nb,kb,J,ey,ah,_,Q,_⟩:=g.at_node ay;obtain⟨ia,rfl,_⟩:=ax.nat;obtain⟨ib,rfl,_⟩:=ay.nat;rw[G_]at U J;have b1:=s.b1;have ai:=(E_.1 U).1;have ak:=(E_.1 J).1;have⟨H1,ab,k1,n1,z7,z8⟩:=n2 h (.box [.I 0,.I 0,.str (bs []),.nl,.nl]) (.box [.I 0,.I 0,.str (bs []),.nl,.nl]);have s1:=s.hk k1;have gA:=s1.gA;have ada:=s1.addr ai;have adb:=s1.addr ak;have ac:=(s1.cell U).l5;have V:=(s1.cell J).l5;have⟨H2,i⟩:∃H2,H2=H1.set h.z (.box (n_ na)):=⟨_,rfl⟩;have k2:HK h H2:=by rw[i];exact k1.set _ o_
 have aj:H2.get (h.z+1)=some (.box [.I 0,.I 0,.str (bs []),.nl,.nl]):=by rw[i];exact(aA o_).trans z8
 have am:H2.get h.z=some (.box (n_ na)):=by rw[i,aF]
 have s2:=s.hk k2;have ag:=s2.gA;have R:=(s2.cell J).l5;have⟨f,o⟩:∃f,f=H2.set (h.z+1) (.box (n_ nb)):=⟨_,rfl⟩;have N:HK h f:=by rw[o];exact k2.set _ o_
 have j:f.get h.z=some (.box (n_ na)):=by rw[o,aA o_];exact am
 have m:f.get (h.z+1)=some (.box (n_ nb)):=by rw[o,aF]
 have s3:=s.hk N;have ao:f.z=h.z+2:=by rw[o,aE,i,aE,n1]
 unfold kj at gA ag;unfold bU at ac V R;simp only[go_sem];rw[<-ab];simp only[go_sem,gA,ada,adb,ac,V,z7];rw[<-i];simp only[go_sem,gA,V,ag,R,aj];rw[<-o];clear ab i o;have i0:∀a b:Int,bW (.ls [.I a,.I b]) 1 (.I 0)=some (.vp (.I a)):=λ_ _=>rfl;have i1:∀a b:Int,bW (.ls [.I a,.I b]) 1 (.I 1)=some (.vp (.I b)):=λ_ _=>rfl;have il:∀l:LL,bW (.ls [cB l]) 2 (.I 0)=some (.vp (cB l)):=λ_=>rfl;have ret:∀(tm:Tm) (H:AH) (r:Bool),HK h H->nth tm 6=.bool r->(r=true<->blw (n+1) x y)->Fin Wu (λv h3=>(∃w,v=.bool w/\(w=true<->blw (n+1) x y))/\HK h h3) .ret (F_ 42 tm) H:=λtm H r hk t6 e=>Fr ⟨⟨r,rfl,e⟩,hk⟩;have kx:x.D=na.D:=by rw[ex];rfl
 have ky:y.D=nb.D:=by rw[ey];rfl
 have eq:∀r:Bool,r=decide ((ia:Int)=ib)->¬(x.D=1/\(y.D=1\/y.D=2))->¬(x.D=2/\y.D=2)->¬(x.D=6/\y.D=6)->¬(x.D=7/\y.D=7)->(r=true<->blw (n+1) x y):=λr hr q1 W q3 q4=>by
  unfold blw;rw[N_ q1,N_ W,N_ q3,N_ q4,hr,decide_eq_true_iff];exact⟨λe=>(e▸ax).det ay,λe=>(e▸ax).inj g.nd ay⟩
 have fin:∀(tm:Tm),nth tm 1=.I ia->nth tm 2=.I ib->¬(x.D=1/\(y.D=1\/y.D=2))->¬(x.D=2/\y.D=2)->¬(x.D=6/\y.D=6)->¬(x.D=7/\y.D=7)->
   R_ K [.code s1042_0] (Fin Wu λv h3=>(∃w,v=.bool w/\(w=true<->blw (n+1) x y))/\HK h h3) .normal (F_ 42 tm) f:=λtm D G q1 W q3 q4=>by
  simp only[go_sem,s1042_0,D,G];exact ret _ f _ N k_ (eq _ rfl q1 W q3 q4)
 by_cases p1:na.D=1
 ·have k:decide (na.D=1)=true:=T_ p1;have u:decide (na.D=2)=false:=d_;have t:decide (na.D=6)=false:=d_;have F:decide (na.D=7)=false:=d_;cases L:decide (nb.D=1) with
  |true=>
   simp only[go_sem,j,m,k,L];exact ret _ f true N k_ ⟨λ_=>by unfold blw;rw[P_ ⟨o_,.inl (by rw[ky];exact O_ L)⟩];trivial,λ_=>rfl⟩
  |false=>
   cases p:decide (nb.D=2) with
   |true=>
    simp only[go_sem,j,m,k,L,p];exact ret _ f true N k_ ⟨λ_=>by unfold blw;rw[P_ ⟨o_,.inr (by rw[ky];exact O_ p)⟩];trivial,λ_=>rfl⟩
   |false=>
    simp only[go_sem,j,m,k,u,t,F,L,p];have:=U_ L;have:=U_ p;exact fin _ k_ k_ o_ o_ o_ o_
 have k:decide (na.D=1)=false:=D_ p1;by_cases p2:na.D=2
 ·have u:decide (na.D=2)=true:=T_ p2;have t:decide (na.D=6)=false:=d_;have F:decide (na.D=7)=false:=d_;cases p:decide (nb.D=2) with
  |true=>
   have W:=O_ p;have⟨la,va⟩:=lev_1 P o_;have⟨lb,vb⟩:=lev_1 Q o_;have la:AV.eL na.L=.ls [cB (lv0 x)]:=by rw[show na.L=x.L by rw[ex];rfl,la];rfl
   have lb:AV.eL nb.L=.ls [cB (lv0 y)]:=by rw[show nb.L=y.L by rw[ey];rfl,lb];rfl
   obtain⟨_,X,Z,rfl,I⟩:=c138 (h:=f) va vb (by have:=va.len;omega) (by have:=vb.len;omega);simp only[go_sem,j,m,k,u,p,la,lb,il,Z];exact ret _ X (leqL (lv0 x) (lv0 y)) (N.trans I) k_ (by unfold blw;rw[N_ o_,P_ ⟨o_,o_⟩])
  |false=>
   have:=U_ p;simp only[go_sem,j,m,k,u,t,F,p];exact fin _ k_ k_ o_ o_ o_ o_
 have u:decide (na.D=2)=false:=D_ p2;have d:x.D=6\/x.D=7->y.D=6\/y.D=7->∃i1 S i2 O D u1 G u2,AV.eI na.K=.ls [.I i1,.I S]/\AV.eI nb.K=.ls [.I i2,.I O]/\At M.ts i1 D/\At M.ts S u1/\At M.ts i2 G/\At M.ts O u2/\aO D<=n/\aO u1<=n/\
   kd 0 x=D/\kd 1 x=u1/\kd 0 y=G/\kd 1 y=u2:=λq1 W=>by
  have⟨a1,b1,L,_,_,z1,z2⟩:=kids_2 P q1;have⟨a2,b2,p,_⟩:=kids_2 Q W;have aa:ka=[a1,b1]:=by rw[<-L,ex];rfl
  have ad:kb=[a2,b2]:=by rw[<-p,ey];rfl
  have⟨i1,S,D,u1,k1,h1,m1,m2⟩:=agM af (by rw[af.len,aa];rfl);have⟨i2,O,G,u2,k2,h2,Y,m4⟩:=agM ah (by rw[ah.len,ad];rfl);rw[aa]at h1;rw[ad]at h2;simp only[List.cons.injEq,and_true]at h1 h2;obtain⟨rfl,rfl⟩:=h1;obtain⟨rfl,rfl⟩:=h2;exact⟨i1,S,i2,O,a1,b1,a2,b2,by rw[k1];rfl,by rw[k2];rfl,m1,m2,Y,m4,o_,o_,by unfold kd;rw[L];rfl,by unfold kd;rw[L];rfl,by unfold kd;rw[p];rfl,by unfold kd;rw[p];rfl⟩
 by_cases p6:na.D=6
 ·have t:decide (na.D=6)=true:=T_ p6;have F:decide (na.D=7)=false:=d_;cases e6:decide (nb.D=6) with
  |true=>
   have q6:=O_ e6;have⟨x1,S,x2,O,D,u1,G,u2,C,z,m1,m2,Y,m4,_,z2,w1,w2,w3,w4⟩:=d (.inl o_) (.inl o_);have bl:blw (n+1) x y<->D=G/\blw n u1 u2:=by
    rw[<-w1,<-w2,<-w3,<-w4]
    conv=>lhs;unfold blw
    rw[N_ o_,N_ o_,P_ ⟨o_,o_⟩]
   cases c:decide (x1=x2) with
   |true=>
    obtain⟨_,X,Z,⟨w,rfl,hb⟩,I⟩:=ih f S O u1 u2 s3 m2 m4 z2;simp only[go_sem,j,m,k,u,t,e6,C,z,i0,i1,c,Z];exact ret _ X w (N.trans I) k_ (by rw[bl,hb];exact⟨λq=>⟨(O_ c▸m1).det Y,q⟩,λq=>q.2⟩)
   |false=>
    simp only[go_sem,j,m,k,u,t,e6,C,z,i0,c];exact ret _ f false N k_ ⟨λq=>(by cases q),λq=>absurd ((bl.1 q).1▸m1 |>.inj g.nd Y) (U_ c)⟩
  |false=>
   have:=U_ e6;simp only[go_sem,j,m,k,u,t,F,e6];exact fin _ k_ k_ o_ o_ o_ o_
 have t:decide (na.D=6)=false:=D_ p6;by_cases p7:na.D=7
 ·have F:decide (na.D=7)=true:=T_ p7;cases e7:decide (nb.D=7) with
  |true=>
   have q7:=O_ e7;have⟨x1,S,x2,O,D,u1,G,u2,C,z,m1,m2,Y,m4,z1,z2,w1,w2,w3,w4⟩:=d (.inr o_) (.inr o_);have bl:blw (n+1) x y<->blw n D G/\blw n u1 u2:=by
    rw[<-w1,<-w2,<-w3,<-w4]
    conv=>lhs;unfold blw
    rw[N_ o_,N_ o_,N_ o_,P_ ⟨o_,o_⟩]
   obtain⟨_,X,Z,⟨w,rfl,hb⟩,I⟩:=ih f x1 x2 D G s3 m1 Y z1;cases w with
   |true=>
    have al:=I.up j;have an:=I.up m;obtain⟨_,H5,e5,⟨bc,rfl,hc⟩,k5⟩:=ih X S O u1 u2 (s3.hk I) m2 m4 z2;simp only[go_sem,j,m,al,an,k,u,t,F,e7,C,z,i0,i1,Z,e5];exact ret _ H5 bc ((N.trans I).trans k5) k_ (by rw[bl,hc];exact⟨λq=>⟨hb.1 rfl,q⟩,λq=>q.2⟩)
   |false=>
    simp only[go_sem,j,m,k,u,t,F,e7,C,z,i0,Z];exact ret _ X false (N.trans I) k_ ⟨λq=>(by cases q),λq=>absurd (hb.2 (bl.1 q).1) (by simp)⟩
  |false=>
   have:=U_ e7;clear d;simp only[go_sem,j,m,k,u,t,F,e7];exact fin _ k_ k_ o_ o_ o_ o_
 have F:decide (na.D=7)=false:=D_ p7;clear d;simp only[go_sem,j,k,u,t,F];exact fin _ k_ k_ o_ o_ o_ o_
end
section
variable {K:aN}{env:List DV}
def Q2 (C:MK.Cx)(ts:List T)(a b:Int)(f:Nat)(_:Ms)(_:Int)(g:AH):Prop:=∃c,g.get f=some (.box [.bool c])/\((a=b/\c=true)\/∃e d x y,At ts a e/\At ts b d/\FmT C e x/\FmT C d y/\(c=true<->blw (aO x) x y))
theorem c1075 [RunsM K][km:KM K][kg:KG K][ks:KS K](eg:Eg env){G:List NV}(g:Wg (Mst G ts)){a b:Int}{ta tb:T}(ha:At ts a ta)(hb:At ts b tb){s:AH}{c C u w:Nat}
  (lt:c<s.z/\C<s.z/\u<s.z/\w<s.z) (_ne:C≠c/\u≠c/\w≠c) (go:s.get c=some (.box [.bool (decide (a=b))])) (ga:s.get C=some (.box [.I a])) (gb:s.get u=some (.box [.I b])) (gc:s.get w=some (.box [.fn (42) [] []])) :
  Cq K (.eD env) G ts s (·=c) (.fn (75) [] [.P c,.P C,.P u,.P w]) (Q2 (Ce env inst) ts a b c):=by
 intro A B B1 gN gF H hB hk st gU gS;have b1:=st.b1;have us:=st.ok.us;have p:=(hk c lt.1).trans go;have Y:=(hk C lt.2.1).trans ga;have l:=(hk u lt.2.2.1).trans gb;have ac:=(hk w lt.2.2.2).trans gc;have ci:=c1104 (A:=A) (B:=B) (B1:=B1) (E:=.eD env);have y0:Y45 B (Ce env inst) (Mst G ts) H:=⟨⟨[],gU,λe O=>by cases O⟩,⟨[],gS,λe O=>by cases O⟩⟩;have⟨I,E⟩:∃I:ep->AH->Prop,I=λo f=>H.z<=f.z/\(∀k,k<B->¬k=c->f.get k=H.get k)/\((∃v,o=.ret v/\∃r n m i,v=.I r/\St A B B1 (.eD env) n m i f/\Wg n/\Le (Mst G ts) n/\Q2 (Ce env inst) ts a b c n r f)\/o=.pan pv/\∀k,k<B->f.get k=H.get k):=⟨_,rfl⟩;have N:=λhR=>(lW) [.P c,.P C,.P u,.P w] [.P A.a] _ .no H H _ _ _ (λo y f=>y=.no/\I o f) afp (ae (bS _ _ _ _) (aH _)) hR;suffices hR:R_ K [.code WX] (XQ (cS K) Fo (mD λo y f=>y=.no/\I o f)) .normal ⟨cU ([.P A.a]++[.P c,.P C,.P u,.P w]),⟨[],.no,none,75⟩⟩ H by
  obtain⟨o,y,f,e,rfl,q⟩:=N hR;rw[E]at q;exact⟨o,f,e,q⟩
 clear N;have pan:∀(tm:Tm) (h:AH),HX B B1 (Um B) H h->XQ (cS K) Fo (mD λo y f=>y=.no/\I o f) (.panic pv) (F_ 75 tm) h:=by
  intro tm h x;have S:∀k,k<B->h.get k=H.get k:=λk a=>x.kw k o_ (.inl a) (by unfold Um;omega);exact jE ⟨rfl,by rw[E];exact⟨x.z,λk a _=>S k a,.inr ⟨rfl,S⟩⟩⟩
 have ret:∀(tm:Tm) (h:AH) (n:Ms) (m i:Nat) (e:AEx),(e=.normal\/e=.ret)->nth tm 6=.I 0->H.z<=h.z->(∀k,k<B->¬k=c->h.get k=H.get k)->St A B B1 (.eD env) n m i h->Wg n->Le (Mst G ts) n->Q2 (Ce env inst) ts a b c n 0 h->
   XQ (cS K) Fo (mD λo y f=>y=.no/\I o f) e (F_ 75 tm) h:=by
  intro tm h n m i e O t6 hn S X g' le q;exact jl (vs:=[.I 0]) O (by simp only[go_sem,Fo,t6]) ⟨.I 0,h,cv_ (aL _ _ _),rfl,by rw[E];exact⟨hn,S,.inl ⟨_,rfl,0,n,m,i,rfl,X,g',le,q⟩⟩⟩
 unfold WX;simp only[Q_,List.nil_append,go_sem,Me,p];by_cases z:a=b
 ·have d:=T_ z;rw[d]at p;simp only[go_sem,d,Eb];exact ret _ H _ _ _ _ (.inr rfl) k_ (e_ _) (λ_ _ _=>rfl) st g (Le.refl _) ⟨true,p,.inl ⟨z,rfl⟩⟩
 have d:=D_ z;have⟨_,H1,e1,V,W⟩:=abV eg ci st g (ct0 G ts) (mem0 G ts) y0 ha;simp only[go_sem,d,Y];have L:∀k,k<B->H1.get k=H.get k:=λk a=>V.kw k o_ (.inl a) (by unfold Um;omega);have t:=(L u o_).trans l;rcases W with⟨v,rfl,M1,ah,ai,s1,g1,P,Q,y1,r1,u1,rfl,a1,f1⟩|rfl
 ·have⟨_,M,e2,x2,U⟩:=abV eg ci s1 g1 Q.ct Q.mem y1 (P.at hb);simp only[go_sem,e1,t];have b11:=s1.b1;have F:∀k,k<B->M.get k=H.get k:=λk a=>(x2.kw k o_ (.inl a) (by unfold Um;omega)).trans (L k a);rcases U with⟨v,rfl,M2,ab,af,s2,g2,D,ak,y2,Z,u2,rfl,a2,f2⟩|rfl
  ·have aa:=(F w o_).trans ac;obtain⟨_,O,e3,⟨q,rfl,hq⟩,R⟩:=c1042 g2 (aO u1) M r1 Z u1 u2 s2 (D.at a1) a2 (e_ _);have aj:=V.z;have ag:=x2.z;have n4:=R.z;have ad:=R.up ((F c o_).trans p);simp only[go_sem,e2,aa,e3,ad,l,t];have⟨J,j⟩:∃J:AH,J=O.set c (.box [.bool q]):=⟨_,rfl⟩;have g3:J.get c=some (.box [.bool q]):=by rw[j,aF]
   have n3:J.z=O.z:=by rw[j,aE]
   have o3:∀k,¬k=c->J.get k=O.get k:=λk q=>by rw[j,aA q]
   rw[<-j];clear j;simp only[go_sem,Eb];exact ret _ J M2 ab af _ (.inr rfl) k_ o_ (λk W U=>(o3 k U).trans ((R.kw k o_).trans (F k W))) ((s2.hk R).up o_ λk W U=>o3 k o_) g2 (P.trans D) ⟨_,g3,.inr ⟨ta,tb,u1,u2,ha,hb,f1,f2,hq⟩⟩
  simp only[go_sem,e2,l,t];exact pan _ _ (V.trans x2)
 simp only[go_sem,e1,l];exact pan _ _ V
end
section
variable {K:aN}{env:List DV}{h:AH}
theorem agj [RunsM K]{gs:List NV}(x y:Int)(l:gs.length<=65536):
  Ret K (56) [.agg [.eN gs],.ls ([x,y].map AG.bh)] h λv _=>v=.bool (decide ((0<=x/\x<(gs.length:Int))/\0<=y/\y<(gs.length:Int))):=by
 refine aV Vb ?_;have i:Pr K (.fn 95 [] [.P h.z]) AG.bh (λx=>decide (x<0\/(gs.length:Int)<=x)) [x,y] (λd=>d.get h.z=some (.box [.eN gs])/\h.z<d.z):=
  ⟨λa b ⟨f,c⟩ k=>⟨(k.kw _ c).trans f,by have:=k.z;omega⟩,λx _ d ⟨f,c⟩=>by obtain⟨v,_,e,rfl,rfl⟩:=abT x f l;exact⟨_,e,HK.refl _⟩,λh=>by rw[jd];simp[AV.norms];rfl⟩
 obtain⟨_,_,e,rfl,j⟩:=c193 (h:=h.new (.box [.eN gs])) i ⟨aD _ _,by rw[aB];omega⟩ (by simp);have g:(!([x,y].any λx=>decide (x<0\/(gs.length:Int)<=x)))=decide ((0<=x/\x<(gs.length:Int))/\0<=y/\y<(gs.length:Int)):=by
  simp only[List.any_cons,List.any_nil,Bool.or_false];by_cases q:(0<=x/\x<(gs.length:Int))/\0<=y/\y<(gs.length:Int)
  ·rw[T_ q,d_,d_];rfl
  rw[D_ q];by_cases c:x<0\/(gs.length:Int)<=x
  ·rw[T_ c];rfl
  rw[D_ c,t_];rfl
 simp only[go_sem,e];rw[g];exact Fr ⟨rfl,(HK.new _ _).trans j⟩
def VG (C:MK.Cx)(d:List NV)(ts:List T)(a b:Int)(v:AV):Prop:=
 (¬((0<=a/\a<(d.length:Int))/\0<=b/\b<(d.length:Int))/\v=.tup [.agg [.ls []],.bool false,.I 2])\/
 v=.tup [.agg [.ls []],.bool false,.I 11]\/
 ∃(c:List NV) (e:List T) (f:Bool),v=.tup [.agg [.eN c],.bool f,.I 0]/\Wg (Mst c e)/\(∃l,c=d++l)/\(0<=a/\a<(d.length:Int))/\(0<=b/\b<(d.length:Int))/\
  ((a=b/\f=true)\/∃h g x y,At ts a h/\At ts b g/\FmT C h x/\FmT C g y/\(f=true<->blw (aO x) x y))
theorem c1037 [RunsM K][km:KM K][kg:KG K][ks:KS K](eg:Eg env){c:List NV}(g:Wg (Mst c ts))(a b:Int):
  Rt K (37) [.eD env,.agg [.eN c],.I a,.I b,.fn (42) [] []] h λv D=>HK h D/\VG (Ce env inst) c ts a b v:=by
 have Q:∀h,cw (.fn (42) [] []) h=(.fn (42) [] [],h):=λh=>by rw[jd];simp[AV.norms]
 have E:=g.most;have aj:Rt K (37) [.eD env,.agg [.eN c],.I a,.I b,.fn (42) [] []] h λv D=>(HK h D/\VG (Ce env inst) c ts a b v):=by
  refine kK afP (ae (uT env h) (ae (nL c h) (ae (aL .i64 a h) (ae (aL .i64 b h) (ae (Q h) (aH _)))))) ?_;simp only[A_];have⟨X,u⟩:∃H:AH,H=h.new (.box [.eN c]):=⟨_,rfl⟩;have⟨W,o⟩:∃H:AH,H=X.new (.box [.I a]):=⟨_,rfl⟩;have⟨H2,n⟩:∃H:AH,H=W.new (.box [.I b]):=⟨_,rfl⟩;have⟨Y,p⟩:∃H:AH,H=H2.new (.box [.fn (42) [] []]):=⟨_,rfl⟩;have⟨f,m⟩:∃H:AH,H=Y.new (.box [.nl]):=⟨_,rfl⟩;have n0:X.z=h.z+1:=by rw[u,aB]
  have n1:W.z=h.z+2:=by rw[o,aB,n0]
  have n2:H2.z=h.z+3:=by rw[n,aB,n1]
  have n3:Y.z=h.z+4:=by rw[p,aB,n2]
  have n4:f.z=h.z+5:=by rw[m,aB,n3]
  have k1:HK X W:=by rw[o];exact HK.new _ _
  have k2:HK W H2:=by rw[n];exact HK.new _ _
  have Z:HK H2 Y:=by rw[p];exact HK.new _ _
  have R:HK Y f:=by rw[m];exact HK.new _ _
  have I:HK h f:=(((show HK h X by rw[u];exact HK.new _ _).trans k1).trans k2).trans (Z.trans R);have g6:f.get h.z=some (.box [.eN c]):=(((k1.trans k2).trans (Z.trans R)).kw _ o_).trans (by rw[u,aD]);have g7:f.get (h.z+1)=some (.box [.I a]):=((k2.trans (Z.trans R)).kw _ o_).trans (by rw[o,<-n0,aD]);have g8:f.get (h.z+2)=some (.box [.I b]):=((Z.trans R).kw _ o_).trans (by rw[n,<-n1,aD]);have g9:f.get (h.z+3)=some (.box [.fn (42) [] []]):=R.up (by rw[p,<-n2,aD]);have ai:f.get (h.z+4)=some (.box [.nl]):=by rw[m,<-n3,aD]
  obtain⟨v,s,e5,rfl,A⟩:=agj (h:=f) (gs:=c) a b E;rw[<-dJ (f:=56) (c:=[]) (ae (nL c f) (ae (EM a b f) (aH _))) (ae (nL _ _) (ae (eQ _ _) (aH _)))]at e5;simp only[go_sem];rw[<-u,n0,<-o,n1,<-n,n2,<-p,n3,<-m];simp only[go_sem,g6,g7,g8,e5];have an:=A.z;have af:=A.up g6;have V:=A.up g7;have N:=A.up g8;have ab:=A.up g9;have z:=A.up ai;have U:=I.trans A;by_cases d:(0<=a/\a<(c.length:Int))/\0<=b/\b<(c.length:Int)
  ·have hd:=T_ d;have⟨_,al⟩:∃t,(Mst c ts).ts[a.toNat]?=some t:=⟨ts[a.toNat]'(by have:=g.len;have:ts.length=c.length:=this;omega),a_ _⟩;have⟨_,ad⟩:∃t,(Mst c ts).ts[b.toNat]?=some t:=⟨ts[b.toNat]'(by have:=g.len;have:ts.length=c.length:=this;omega),a_ _⟩;have⟨T,i⟩:∃H:AH,H=(s.new (.box [.bool false])).set s.z (.box [.bool (decide (a=b))]):=⟨_,rfl⟩;have C:HK s T:=by rw[i];exact(HK.new _ _).set _ (e_ _)
   have n6:T.z=s.z+1:=by rw[i,aE,aB]
   have L:T.get s.z=some (.box [.bool (decide (a=b))]):=by rw[i,aF]
   have am:=C.up af;have O:=C.up V;have ak:=C.up N;have ag:=C.up ab;have P:=C.up z;simp only[go_sem,hd,V,N];rw[<-i];clear i;simp only[go_sem,am,O];have⟨v,B,e7,⟨_,J⟩,q7⟩:=c1029 (h:=T) g a (O:=λk=>k=s.z) (λk w=>by omega) (fid:=75) (caps:=[.P s.z,.P (h.z+1),.P (h.z+2),.P (h.z+3)]) (λh=>by rw[jd];simp[AV.norms,AV.norm])
    (Q:=Q2 (Ce env inst) ts a b s.z) (λM r h3 D w ⟨j,q1,q2⟩=>⟨j,(w _ o_).trans q1,q2⟩)
    (λ_=>c1075 eg g ⟨d.1.1,al⟩ ⟨d.2.1,ad⟩ o_ o_ L O ak ag)
   have G:=(J (h.z+4) o_ o_).trans P;have ac:HK h B:=⟨by have:=I.z;omega,λk hk=>(J k o_ o_).trans (C.up (U.kw k hk))⟩;obtain⟨l,r,e,j,rfl,ah,pp⟩:∃(l:List NV) (r e:Int) (j:Bool),v=.tup [.agg [.eN l],.I r,.I e]/\B.get s.z=some (.box [.bool j])/\VG (Ce env inst) c ts a b (.tup [.agg [.eN l],.bool (j&&decide (e=0)),.I e]):=by
    rcases q7 with⟨w,_,_⟩|⟨rfl,kz⟩|⟨M',r,rfl,w1,w2,j,q1,q2⟩
    ·cases w d.1
    ·exact⟨[],0,11,decide (a=b),rfl,kz.up L,.inr (.inl (by simp))⟩
    exact⟨M'.ns,r,0,j,rfl,q1,.inr (.inr ⟨M'.ns,M'.ts,j,by simp,w1,w2,d.1,d.2,q2⟩)⟩
   have⟨H8,x⟩:∃H:AH,H=(B.new (.box [.nl])).set B.z (.box [.eN l]):=⟨_,rfl⟩;have k8:HK B H8:=by rw[x];exact(HK.new _ _).set _ (e_ _)
   have F:H8.get B.z=some (.box [.eN l]):=by rw[x,aF]
   have S:=k8.up ah;have y:=k8.up G;simp only[go_sem,e7];rw[<-x];clear x;simp only[go_sem,S];have pend:∀b2:Bool,b2=(j&&decide (e=0))->∃v' h3,mT (.tup [.agg [.eN l],.bool b2,.I e]) (H8.set (h.z+4) (.box [.eN l]))=(v',h3)/\HK h h3/\VG (Ce env inst) c ts a b v':=λb2 aa=>
    ⟨_,_,bF (ae (nL _ _) (ae (bp _ _) (ae (aL _ _ _) (aH _)))),(ac.trans k8).set _ o_,by rw[aa];exact pp⟩
   cases j with
   |true=>
    simp only[go_sem,y];refine⟨rfl,rfl,.inr rfl,[.agg [.eN l],.bool (decide (e=0)),.I e],?_,pend _ (by simp)⟩;simp only[go_sem,JI]
   |false=>
    simp only[go_sem,y];refine⟨rfl,rfl,.inr rfl,[.agg [.eN l],.bool false,.I e],?_,pend _ (by simp)⟩;simp only[go_sem,JI]
  have hd:=D_ d;simp only[go_sem,hd,z];refine⟨rfl,rfl,.inr rfl,[.agg [.nl],.bool false,.I 2],?_,_,_,bF (ae (xW _) (ae (bp _ _) (ae (aL _ _ _) (aH _)))),U.set _ o_,.inl ⟨d,rfl⟩⟩;simp only[go_sem,JI]
 have⟨v,D,e,k,q⟩:=aj;exact⟨v,D,e,k,q⟩
theorem c1017 [RunsM K][B:KM K][E:KG K][D:KS K](x:Eg env){i:List NV}(g:Wg (Mst i ts))(a b:Int):
  Rt K (20) [.eD env,.agg [.eN i],.I a,.I b] h λv m=>HK h m/\VG (Ce env inst) i ts a b v:=by
 have p:Rt K (20) [.eD env,.agg [.eN i],.I a,.I b] h λv m=>(HK h m/\VG (Ce env inst) i ts a b v):=by
  refine aV af1 ?_;have⟨n,f⟩:∃H:AH,H=h.new (.box [.eN i]):=⟨_,rfl⟩;have⟨l,d⟩:∃H:AH,H=n.new (.box [.nl]):=⟨_,rfl⟩;have r:n.z=h.z+1:=by rw[f,aB]
  have n1:l.z=h.z+2:=by rw[d,aB,r]
  have w:HK n l:=by rw[d];exact HK.new _ _
  have o:HK h l:=(show HK h n by rw[f];exact HK.new _ _).trans w;have z:l.get h.z=some (.box [.eN i]):=w.up (by rw[f,aD]);have y:l.get (h.z+1)=some (.box [.nl]):=by rw[d,<-r,aD]
  have⟨v,_,A,u,t⟩:=c1037 (h:=l) x g a b;have s:=u.up y;obtain⟨c,j,e,rfl⟩:∃(c:List NV) (j:Bool) (e:Int),v=.tup [.agg [.eN c],.bool j,.I e]:=by
   rcases t with⟨_,rfl⟩|rfl|⟨c,_,j,rfl,_⟩
   ·exact⟨[],_,_,rfl⟩
   ·exact⟨[],_,_,rfl⟩
   exact⟨c,j,_,rfl⟩
  simp only[go_sem];rw[<-f,r,<-d];simp only[go_sem,z,A,s];refine⟨rfl,rfl,.inr rfl,[.agg [.eN c],.bool j,.I e],?_,.tup [.agg [.eN c],.bool j,.I e],_,bF (ae (nL _ _) (ae (bp _ _) (ae (aL _ _ _) (aH _)))),(o.trans u).set _ o_,t⟩;simp only[go_sem,Wz]
 have⟨v,m,e,k,q⟩:=p;exact⟨v,m,e,k,q⟩
end
