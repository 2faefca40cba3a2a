/- Lemmas for MachineOrders (no condition). -/
import Derived.Test.YtocdlbblemjabaaGreatDoorBb
set_option linter.defProp false
namespace Go.Proofs.YtocdlbblemjabaaGreatDoor
open Go.AG Go.AG.MK
variable {x:AX}{nm:ByteArray}{d:DV}{v0 p:Int}{l:List Int}{ls:List LL}{b ks ts:List T}{C:MK.Cx}{M a:Ms}{i:NV}{n j:Nat}{t h ty c u:T}{tm:Tm}
def zEl:List AV:=[.I 0,.I 0,.I 0,.I 0,.I 0,.I 0,.str (bs []),.ls [],.ls []]
def Ip (env:List DV)(n:NV):AV:=if n.D=3 then
  match fG n.N env 0 with
  |some e=>.tup [.agg (aY e),.bool (decide (e.Q=(n.L.length:Int)))]
  |none=>.tup [.agg zEl,.bool false]
 else .tup [.agg zEl,.bool false]
def Ve (h:AH):cw (.agg zE) h=(.agg zEl,h):=by
 rw[bQ (by simp[zE,AV.free,AV.frees])];simp[zE,zEl,AV.norm,AV.norms]
def MY (h:AH):cw (.agg zEl) h=(.agg zEl,h):=by
 rw[bQ (by simp[zEl,AV.free,AV.frees])];simp[zEl,AV.norm,AV.norms]
def Vg (e:EV)(h:AH):cw (.agg (aY e)) h=(.agg (aY e),h):=by have:=JT e h;rw[hG]at this;exact this
section
variable {K:aN}{A:Ma}{B B1:Nat}{env:List DV}{M:Ms}{gN gF:Nat}{h:AH}
theorem abQ [RunsM K](s:St A B B1 (.eD env) M gN gF h)(n:NV)(hd:∀d∈env,DS d)(U:env.length<1000):
  Ret K (103) [.P A.a,bU n] h λv _=>v=Ip env n:=by
 refine aV ae7 ?_;have b1:=s.b1;have ra:=s.ok.rng.1;have n1:=aB h (.box (n_ n));have⟨H,I,t,_,P,S⟩:=n2 h (.box (n_ n)) (.box zE);have gA:=(s.hk t).gA;unfold kj at gA;unfold zE at I;have fin:∀(tm:Tm) (q:AH) (e:AEx) (E u:List AV) (b:Bool),(e=.normal\/e=.ret)->nth tm 4=.P (h.z+1)->nth tm 5=.bool b->HK h q->q.get (h.z+1)=some (.box E)->E.length=9->cw (.agg E) q=(.agg u,q)->Ip env n=.tup [.agg u,.bool b]->
   Fin QG (λY W=>Y=Ip env n/\HK h W) e (F_ 103 tm) q:=by
  intro tm q e E u b Z T t5 X g L D V;refine⟨rfl,rfl,Z,[.agg E,.bool b],?_,_,q,bF (ae D (ae (bp _ _) (aH _))),V.symm,X⟩;unfold QG;rw[jv,jP,mQ,T,t5,cE g L];rfl
 unfold bU;simp only[go_sem,n1];rw[<-I];clear I;simp only[go_sem,P];by_cases hk:n.D=3
 ·have F:=T_ hk;have p:HK H (H.new (.box zE)):=HK.new _ _;obtain⟨_,a,x,rfl,r⟩:=c257 env n.N (H.new (.box zE)) hd U;have nz:=aB H (.box zE);have aa:=r.z;have R:a.get H.z=some (.box zE):=r.up (aD _ _);have C:=((p.trans r).kw _ o_).trans P;have w:=((p.trans r).kw _ o_).trans S;have f:=(s.hk (t.trans p)).gA;have m:=p.up P;have l:=λo=>(s.up (h':=a.set H.z o) (by rw[aE];have:=t.z;omega) (λk _ q2=>by rw[aA o_];exact((t.trans p).trans r).kw k o_)).gA;have j:=λo=>(show(a.set H.z o).get h.z=_ from aA o_).trans C;unfold kj at f l;unfold zE at x f m;cases i:fG n.N env 0 with
  |none=>
   rw[i,qj]at x;have st:=aS (vs:=zEl) (sz:=9) R rfl rfl;have y:(a.set H.z (.box zEl)).get H.z=some (.box zEl):=aF _ _ _;have G:=cE (sz:=9) y rfl;have c:=aS (h:=a.set H.z (.box zEl)) (k:=h.z+1) (vs:=zEl) (sz:=9) (by rw[aA o_];exact w) rfl rfl;unfold zEl at st G c;simp only[go_sem,F,f,m,x,st,G,c];refine fin _ _ _ zEl zEl false (.inr rfl) k_ k_ ?_ (by rw[aF];rfl) rfl (MY _) (by unfold Ip;rw[P_ hk,i]);exact(((t.trans p).trans r).set (j:=H.z) _ o_).set (j:=h.z+1) _ o_
  |some e=>
   rw[i,qh,hG]at x;have st:=aS (vs:=aY e) (sz:=9) R rfl rfl;have y:(a.set H.z (.box (aY e))).get H.z=some (.box (aY e)):=aF _ _ _;have G:=cE (sz:=9) y rfl;have c:=aS (h:=a.set H.z (.box (aY e))) (k:=h.z+1) (vs:=aY e) (sz:=9) (by rw[aA o_];exact w) rfl rfl;have O:(a.set H.z (.box (aY e))).get h.z=_:=(aA o_).trans C;have J:cC (.ptr H.z 0 3) (a.set H.z (.box (aY e))) false 1=some (.I e.Q):=by rw[fE,y];rfl
   have Q:=(show((a.set H.z (.box (aY e))).set (h.z+1) (.box (aY e))).get h.z=_ from aA o_).trans O;have N:=(show((a.set H.z (.box (aY e))).set (h.z+1) (.box (aY e))).get H.z=_ from aA o_).trans y;have c3:(aY e)[3]?=some (.I e.Q):=rfl;simp only[go_sem,F,f,m,x,st,G,c,J,j,c3,Q,N];refine fin _ _ _ (aY e) (aY e) (decide (e.Q=(n.L.length:Int))) (.inr rfl) k_ k_ ?_ (by rw[aF]) rfl (Vg _ _) (by unfold Ip;rw[P_ hk,i]);exact(((t.trans p).trans r).set (j:=H.z) _ o_).set (j:=h.z+1) _ o_
 have F:=D_ hk;have z:=aS (vs:=zE) (sz:=9) S rfl rfl;unfold zE at z;simp only[go_sem,F,z];exact fin _ _ _ zE zEl false (.inr rfl) k_ k_ (t.set _ o_) (by rw[aF];rfl) rfl (Ve _) (by unfold Ip;rw[N_ hk])
def chs (nm:ByteArray):List Br->Option (Bool×gK)
 |[]=>none
 |.mk c a t::l=>if c=nm then some (a,t) else chs nm l
def chV (o:Option (Bool×gK)):AV:=match o with
 |some (a,t)=>.tup [.agg (bc t),.bool (!a)]
 |none=>.tup [.agg [.I 0,.I 0,.I 0,.str (bs []),.ls [],.ls [],.I 0,.ls []],.bool false]
def vV (b:Br):List AV:=match b with
 |.mk c a t=>.str c :: .bool a::bc t
theorem jx (b:Br):nK b=.agg (vV b):=by cases b;simp[nK,vV,oe]
@[go_sem] def encBr_len (b:Br):(nK b).cells.length=10:=by rw[jx];cases b;rfl
def oL (t:gK)(h:AH):cw (.agg (bc t)) h=(.agg (bc t),h):=by
 rw[bQ (by simp only[AV.free];exact uH t)];simp only[AV.norm,uG]
instance (t:gK):Can (.agg (bc t)) (.agg (bc t)):=⟨oL t⟩
def I1148 (a:AH)(t:gK)(nm:ByteArray)(j:Nat)(b:AF)(h:AH):Prop:=∃tm p,p+j=(cm t).length/\b=F_ 148 tm/\HK a h/\a.z+2<=h.z/\h.get (a.z+1)=some (.box [.I 0,.I 0,.I 0,.str (bs []),.nl,.nl,.I 0,.nl])/\
 nth tm 1=.str nm/\nth tm 4=.P (a.z+1)/\nth tm 9=.ls ((cm t).map nK)/\nth tm 10=.I ((cm t).length:Int)/\nth tm 11=.I (p:Int)/\chs nm (cm t)=chs nm ((cm t).drop p)
theorem c1148 [RunsM K](t:gK)(nm:ByteArray)(h:AH)(hl:(cm t).length<1000):
  Ret K (148) [.agg (bc t),.str nm] h λv _=>v=chV (chs nm (cm t)):=by
 refine aV aeF ?_;have n1:=aB h (.box (bc t));have⟨_,R,Z,_,G,A⟩:=n2 h (.box (bc t)) (.box [.I 0,.I 0,.I 0,.str (bs []),.nl,.nl,.I 0,.nl]);have fin:∀(tm:Tm) (d:AH) (e:AEx) (w m:List AV) (b:Bool),(e=.normal\/e=.ret)->nth tm 4=.P (h.z+1)->nth tm 5=.bool b->HK h d->d.get (h.z+1)=some (.box w)->w.length=8->cw (.agg w) d=(.agg m,d)->chV (chs nm (cm t))=.tup [.agg m,.bool b]->
   Fin Qx (λX V=>X=chV (chs nm (cm t))/\HK h V) e (F_ 148 tm) d:=by
  intro tm d e w m b Y i t5 W g E u U;refine⟨rfl,rfl,Y,[.agg w,.bool b],?_,_,d,bF (ae u (ae (bp _ _) (aH _))),U.symm,W⟩;unfold Qx;rw[jv,jP,mQ,i,t5,cE g E];rfl
 simp only[go_sem,n1];rw[<-R];clear R;unfold bc fS at G;simp only[go_sem,G];refine bo (I1148 h t nm) (cm t).length o_ ⟨_,0,o_,rfl,Z,o_,A,k_,k_,k_,k_,y_,rfl⟩ ?_;clear G A;rintro j fr C ⟨tm,p,hp,rfl,N,nx,A,S,i,P,n,l,y⟩;simp only[go_sem,n,l];refine aU (λz=>?_) (λT=>?_)
 ·have z:p<(cm t).length:=o_;have a:=a_ z;revert a;generalize (cm t)[p]=b;intro a;have Q:=aR encBr_len a .i64;rw[vU a]at y;have⟨c,D,k⟩:=b;have x:=λh=>eA (v:=nK (.mk c D k)) (sz:=10) rfl (encBr_len _) h;rw[jx]at Q x;have q:=aS (h:=C.new (.box [.str (bs []),.bool false,.I 0,.I 0,.I 0,.str (bs []),.nl,.nl,.I 0,.nl])) (vs:=vV (.mk c D k)) (sz:=10) (aD _ _) rfl rfl;have⟨d,B,O,_,r⟩:=ns C (.box [.str (bs []),.bool false,.I 0,.I 0,.I 0,.str (bs []),.nl,.nl,.I 0,.nl]) (.box (vV (.mk c D k)));rw[<-B]at q;clear B;have s:=O.up A;have L:cC (.ptr C.z 0 2) d true 8=some (.agg (bc k)):=by
   rw[fE,r,aK,fh,lv _ _ _ (by show 2+8<=10;omega)];rfl
  have f:=aS (vs:=bc k) (sz:=8) s rfl rfl;have J:=aP p o_;unfold vV at r;simp only[go_sem,P,l,Q,x,q,S,r];by_cases hs:c=nm
  ·have M:=T_ hs;have F:=λo=>(show(d.set (h.z+1) o).get C.z=_ from aA o_).trans r;simp only[go_sem,M,L,r,F,i,f];refine fin _ _ _ (bc k) (bc k) (!D) (.inr rfl) (q_ i) k_ ((N.trans O).set _ o_) (aF _ _ _) rfl (oL _ _) ?_;rw[y,chs,P_ hs];rfl
  have M:=D_ hs;simp only[go_sem,M,l,J];refine⟨j-1,o_,_,p+1,o_,rfl,N.trans O,o_,s,q_ S,q_ i,q_ P,q_ n,k_,?_⟩;rw[y,chs,N_ hs]
 have I:p=(cm t).length:=o_;subst I;rw[List.drop_length]at y;have f:=aS (vs:=[.I 0,.I 0,.I 0,.str (bs []),.nl,.nl,.I 0,.nl]) (sz:=8) A rfl rfl;simp only[go_sem,i,f];refine fin _ _ _ _ [.I 0,.I 0,.I 0,.str (bs []),.ls [],.ls [],.I 0,.ls []] false (.inr rfl) (q_ i) k_ (N.set _ o_) (aF _ _ _) rfl ?_ (by rw[y];rfl);rw[bQ (by simp[AV.free,AV.frees])];simp[AV.norm,AV.norms]
theorem c1147 [RunsM K](l:List Int)(e:l≠[])(j:l.length<10000)(h:AH):
  Ret K (147) [.eI l] h λv i=>Own h.z 1 false i v (l.map AG.bh):=by
 refine Ey aeG ?_;have d:∀h:AH,rj (.eI l) .eql .slice .nl=some (.bool false):=by
  intro _;cases l with
  |nil=>exact absurd rfl e
  |cons a l=>rfl
 have c:cI h 1 false [.I 0] 8 (.clip []) (.eI l)=some (.row h.z 0 1 0 l.length,h.new (.row 0 1 false (bJ (l.map AG.bh)) 0)):=by
  have e0:cI h 1 false [.I 0] 8 (.clip []) (.eI l)=List.casesOn (l.map AG.bh) (qP (.clip []) h) λy g=>kO (.clip []) h 1 false 8 (y::g):=by
   show aI (cond (fZ 1 (l.map AG.bh)) (some (l.map AG.bh)) none) (λf=>cond (and (fT f) (Nat.beq (len ([.I 0]:List AV)) 1)) _ _)=_;rw[zg];show cond (and (fT (l.map AG.bh)) true) _ _=_;rw[Ii];rfl
  rw[e0];have b:need 0 (l.map AG.bh).length 8=true:=by
   show and (Nat.ble ((2*(0+(l.map AG.bh).length)+1000)*8) 140737488355328) (Nat.ble (0+(l.map AG.bh).length) 9223372036854775807)=true;rw[L_,fK o_,fK o_];rfl
  cases l with
  |nil=>exact absurd rfl e
  |cons a l=>
   show cond (and (need 0 (len ((a::l).map AG.bh)) 8) true) (some (AV.row h.z 0 1 0 (0+len ((a::l).map AG.bh)),h.new (.row 0 1 false (app [] (bJ ((a::l).map AG.bh))) 0))) none=_;rw[bT,b,L_,z_];rfl
 simp only[go_sem,d h,c];exact⟨rfl,rfl,.inr rfl,[_],y_,⟨mB _,.inr ⟨h.z,0,by rw[L_];rfl,aD _ _,by rw[aB];omega,e_ _⟩⟩,HK.new _ _⟩
end
mutual
def Ke:gK->Nat->Prop
 |.mk _ b _ l,n=>TOK b/\aO b<50000/\l.length<1000/\VH l n
def VH:List Br->Nat->Prop
 |[],_=>True
 |.mk _ _ t::l,n=>(∃k,n=k+1/\Ke t k)/\VH l n
end
def KE: ∀{l:List Br} {b:Bool} {t:gK},VH l n->chs nm l=some (b,t)->∃k,n=k+1/\Ke t k
 |.mk c a t::l,b,u,h,e=>by
  unfold VH at h;unfold chs at e;split at e
  ·cases e;exact h.1
  exact KE h.2 e
structure Dg (d:DV):Prop where
 ds:DS d
 fx0:0<=d.f
 fx1:d.D=3->d.f<=(fD d.type).length
 fx2:d.D=3->∀c∈d.C,d.f<=(fD c.type).length
 ty:aO d.type<50000
 cty:∀c∈d.C,aO c.type<50000/\(fD c.type).length<=400
 v:d.D=1->TOK d.v/\aO d.v<50000
 R:∀r∈d.R,TOK r/\aO r<50000
 F:∀f∈d.F,1<=f.a/\f.a<=16/\Ke f.tree 50
structure Eg (env:List DV):Prop where
 len:env.length<1000
 dg:∀d∈env,Dg d
def Eg.ds {env:List DV}(g:Eg env):∀d∈env,DS d:=λd h=>(g.dg d h).ds
def fam_cases (env:List DV)(nm:ByteArray):(∃l j b,rY env nm=.tup [.agg l,.I j,.bool b]/\l.length=23/\(b=false\/j<0)/\um env nm=none)\/
  ∃(d:DV) (i:Nat) (c:CtV),d∈env/\rY env nm=.tup [gJ d,.I (i:Int),.bool true]/\d.C[i]?=some c/\um env nm=some (d.N,i,(fD c.type).length,d.f.toNat,c.N):=by
 unfold rY um;cases m:fG nm env 0 with
 |none=>exact .inl ⟨_,_,_,rfl,rfl,.inl rfl,rfl⟩
 |some e=>
  have ent:=jm env env 0 e (λj=>by rw[z_]) m;simp only;cases ent with
  |plain k n d p t a h g=>
   simp only[G_,a];rw[N_ (show ¬k=4 by omega),N_ (show ¬k=4 by omega),N_ (show ¬k=5 by omega)];by_cases q:k=3
   ·rw[P_ q];exact .inl ⟨_,_,_,rfl,rfl,.inr o_,rfl⟩
   rw[N_ q];exact .inl ⟨_,_,_,rfl,rfl,.inl rfl,rfl⟩
  |ctor n j d c p a h g=>
   simp only[G_,a,g];exact .inr ⟨d,j,c,m_ a,rfl,g,rfl⟩
  |rcr n d p t a h=>
   simp only[G_,a];exact .inl ⟨_,_,_,rfl,rfl,.inr o_,rfl⟩
  |fn n j d f p a h g=>
   simp only[G_,a];exact .inl ⟨_,_,_,rfl,rfl,.inl rfl,rfl⟩
def oV {b d:Nat}(e:ev x tm=.I (n:Int))(a:n<=b):Qh (some x) tm d b=some n:=by
 show py (ev x tm) b=some n;rw[e];show aI (some n) (λm=>cond (Nat.ble m b) (some m) none)=_;rw[aK,fK a];rfl
def sj (l:List Int)(e:ev x tm=i_ (n:Int))(a:n<=l.length):fb 1 (.ls (l.map AG.bh)) tm (some x) none=some (.ls ((l.drop n).map AG.bh)):=by
 unfold fb;show aI (some (len (l.map AG.bh))) _=_;rw[aK,bT,L_];show aI (some l.length) _=_;rw[aK,oV e a,aK];show cond (fZ 1 (l.map AG.bh)) (some (AV.ls (tke (l.length-n) (drp n (l.map AG.bh))))) none=_;rw[zg,lu,iC,l_ (by simp),List.map_drop];rfl
def BQ (l:List Int)(b:n<=l.length):mO 1 (.ls (l.map AG.bh)) (i_ (n:Int))=some (.ls ((l.take n).map AG.bh)):=by
 show aI (some (len (l.map AG.bh))) (λm=>aI (py (i_ (n:Int)) m) λa=>aI (some 0) λlo=>FG (.ls (l.map AG.bh)) 1 lo a)=_;rw[aK,bT,L_];have e:py (i_ (n:Int)) l.length=some n:=by
  show aI (some n) (λm=>cond (Nat.ble m l.length) (some m) none)=_;rw[aK,fK b];rfl
 rw[e,aK,aK];show cond (fZ 1 (l.map AG.bh)) (some (AV.ls (tke (n-0) (drp 0 (l.map AG.bh))))) none=_;rw[zg,lu,iC,List.drop_zero,Nat.sub_zero,List.map_take];rfl
@[go_sem] def faddr_ct (c:CtV):cy (.vp (.agg (oK c))) 1 5 true=some (.vp (.agg (aG c.type))):=rfl
section
variable {K:aN}{A:Ma}{B B1:Nat}{env:List DV}{M:Ms}{gN gF:Nat}{h:AH}{inst:T->List LL->Option T}
def Ce (env:List DV)(inst:T->List LL->Option T):MK.Cx:=⟨oD env,um env,inst⟩
def CtR (env:List DV)(M:Ms)(o:Option FZ)(v:AV):Prop:=match o with
 |none=>∃e j,v=.tup [.agg e,.I j,.ls [],.bool false]/\e.length=23
 |some b=>∃d a,d∈env/\v=.tup [.agg (aQ d),.I (b.j:Int),.eI a,.bool true]/\d.N=b.fam/\Lk M.ts a b.fields/\(∃c,d.C[b.j]?=some c/\c.N=b.N)/\a.length<=400
def abN [RunsM K](eg:Eg env)(s:St A B B1 (.eD env) M gN gF h)(g:Wg M){x:Int}(hx:At M.ts x t):
  Ret K (146) [.P A.a,.I x] h λv _=>CtR env M (cR (Ce env inst) t) v:=by
 refine aV aeH ?_;have b1:=s.b1;have ra:=s.ok.rng.1;have⟨H0,hH⟩:∃H:AH,H=h.new (.box zD):=⟨_,rfl⟩;have k0:HK h H0:=by rw[hH];exact HK.new _ _
 have n0:H0.z=h.z+1:=by rw[hH,aB]
 have ax:H0.get h.z=some (.box zD):=by rw[hH,aD]
 obtain⟨v,w,e1,⟨_,f,rfl,ah,lk,_⟩,k1⟩:=JW (s.hk k0) g x t hx;have n1:=k1.z;have G:=k0.trans k1;have s1:=s.hk G;have al:=k1.up ax;obtain⟨rn,rfl,_⟩:=ah.nat;have⟨N,_,hn,av,_,_,_,_⟩:=g.at_node ah;have hn:M.ns[rn]?=some N:=by simpa using hn
 have hj:=(E_.1 hn).1;have u:(aT t).1.D=N.D:=by rw[av];rfl
 have L:(aT t).1.N=N.N:=by rw[av];rfl
 have cl:=s1.cell hn;have ad:=s1.addr hj;have l:=s1.gA;have X:=cl.l0;have l2:=cl.l2;unfold kj at l;have fin:∀(tm:Tm) (p:AH) (e:AEx) (S ai:List AV) (j:Int) (y y':AV) (b:Bool),(e=.normal\/e=.ret)->nth tm 4=.P h.z->nth tm 5=.I j->nth tm 6=y->nth tm 7=.bool b->HK h p->p.get h.z=some (.box S)->S.length=23->cw (.agg S) p=(.agg ai,p)->cw y p=(y',p)->CtR env M (cR (Ce env inst) t) (.tup [.agg ai,.I j,y',.bool b])->
   Fin Qy (λv' h3=>CtR env M (cR (Ce env inst) t) v'/\HK h h3) e (F_ 146 tm) p:=by
  intro tm p e S ai j y y' b he t4 t5 t6 t7 kk g ac au hy hf;refine⟨rfl,rfl,he,[.agg S,.I j,y,.bool b],?_,_,p,bF (ae au (ae (aL _ _ _) (ae hy (ae (bp _ _) (aH _))))),hf,kk⟩;unfold Qy;rw[jv,jP,jP,jP,mQ,t4,t5,t6,t7,cE g ac];rfl
 unfold zD at hH;simp only[go_sem];rw[<-hH];clear hH;simp only[go_sem,e1,l,ad,X];by_cases hk:N.D=3
 ·have W:=T_ hk;have kz:HK w (w.new (.box zD)):=HK.new _ _;obtain⟨_,p,F,rfl,k2⟩:=c324 env N.N (w.new (.box zD)) eg.ds eg.len;have nz:=aB w (.box zD);have bf:=k2.z;have gz:p.get w.z=some (.box zD):=k2.up (aD _ _);have ak:=kz.trans k2;have ar:=ak.up al;have Z:=G.trans ak;have a3:=(s.hk (G.trans kz)).cell hn;have m:=(s.hk (G.trans kz)).gA;have q:=a3.l2;have sS:∀o,St A B B1 (.eD env) M gN gF (p.set w.z o):=λo=>s.up (h':=p.set w.z o) (by rw[aE];omega) (λk _ q2=>by rw[aA o_];exact Z.kw k o_);have E:=λo=>(sS o).gA;have V:=λo=>((sS o).cell hn).l2;unfold kj at m E;unfold zD at m q;rcases fam_cases env N.N with⟨S,j,b,ef,ac,a5,a8⟩|⟨d,jn,c,aq,ef,hc,aa⟩
  ·have a:cR (Ce env inst) t=none:=by unfold cR;rw[u,P_ hk,L];show(match um env N.N with|some (fam,j,n,fx,nm)=>_|none=>none)=none;rw[a8]
   rw[ef]at F;have st:=aS (vs:=S) (sz:=23) gz rfl ac;have Q:=aS (h:=p.set w.z (.box S)) (k:=h.z) (vs:=zD) (sz:=23) (by rw[aA o_];exact ar) rfl rfl;have kf:HK h ((p.set w.z (.box S)).set h.z (.box zD)):=(Z.set (j:=w.z) _ o_).set (j:=h.z) _ (e_ _);unfold zD at F Q;rcases a5 with rfl|a6
   ·simp only[go_sem,W,m,ad,q,F,st,Q];exact fin _ _ _ zD zDl 0 _ (.ls []) false (.inr rfl) k_ k_ k_ k_ kf (by rw[aF];rfl) rfl (ox _) (dL _) (by rw[a];exact⟨_,_,rfl,rfl⟩)
   have dj:=T_ a6;cases b with
   |false=>
    simp only[go_sem,W,m,ad,q,F,st,Q];exact fin _ _ _ zD zDl 0 _ (.ls []) false (.inr rfl) k_ k_ k_ k_ kf (by rw[aF];rfl) rfl (ox _) (dL _) (by rw[a];exact⟨_,_,rfl,rfl⟩)
   |true=>
    simp only[go_sem,W,dj,m,ad,q,F,st,Q];exact fin _ _ _ zD zDl 0 _ (.ls []) false (.inr rfl) k_ k_ k_ k_ kf (by rw[aF];rfl) rfl (ox _) (dL _) (by rw[a];exact⟨_,_,rfl,rfl⟩)
  rw[ef]at F;rw[bX]at F;have st:=aS (vs:=aQ d) (sz:=23) gz rfl rfl;have⟨H3,z⟩:∃H3:AH,H3=p.set w.z (.box (aQ d)):=⟨_,rfl⟩;have U:=E (.box (aQ d));have R:=V (.box (aQ d));rw[<-z]at st U R;have J:H3.get w.z=some (.box (aQ d)):=by rw[z,aF]
  have a2:H3.get h.z=some (.box zD):=by rw[z,aA o_];exact ar
  have a0:HK h H3:=by rw[z];exact Z.set _ o_
  have n3:H3.z=p.z:=by rw[z,aE]
  clear z;have dl:=(E_.1 hc).1;have ag:decide ((jn:Int)<0)=false:=d_;have aj:decide ((d.C.length:Int)<=(jn:Int))=false:=d_;have dg:=eg.dg d aq;have an:=m_ hc;have P:=aR encCt_len hc .i64;rw[AB]at P;obtain⟨_,H5,e5,rfl,k5⟩:=c312 c.type H3 (dg.cty c an).1;rw[eM]at e5;have n5:=k5.z;have am:=k5.up J;have a7:=k5.up a2;have az:=a0.trans k5;have O:=aS (h:=H5.new (.box zT)) (vs:=aG (qv c.type)) (sz:=5) (aD _ _) rfl rfl;have⟨H6,af⟩:∃H6:AH,H6=(H5.new (.box zT)).set H5.z (.box (aG (qv c.type))):=⟨_,rfl⟩;rw[<-af,<-eM]at O;have k6:HK H5 H6:=by rw[af];exact(HK.new _ _).set _ (e_ _)
  clear af;have i:=k6.up am;have aw:=k6.up a7;have Y:=az.trans k6;have a9:=lk.len.symm;have ab:cR (Ce env inst) t=if (aT t).2.length=(fD c.type).length/\d.f.toNat<=(fD c.type).length then some ⟨d.N,jn,c.N,(aT t).2.drop d.f.toNat⟩ else none:=by
   unfold cR;rw[u,P_ hk,L];show(match um env N.N with|some (fam,j,n,fx,nm)=>_|none=>none)=_;rw[aa]
  have bd:=dg.fx0;have C:=aS (vs:=zD) (sz:=23) aw rfl rfl;unfold zD at F C;unfold aQ at J i;by_cases hq:f.length=(fD c.type).length
  ·have dq:decide ((f.length:Int)=((fD c.type).length:Int))=true:=t_;by_cases ap:(f.length:Int)<d.f
   ·have df:=T_ ap;have a:cR (Ce env inst) t=none:=by rw[ab,N_ o_]
    simp only[go_sem,W,ag,aj,m,ad,q,F,st,J,P,e5,O,dq,df,i,C];exact fin _ _ _ zD zDl 0 _ (.ls []) false (.inr rfl) k_ k_ k_ k_ (Y.set _ (e_ _)) (by rw[aF];rfl) rfl (ox _) (dL _) (by rw[a];exact⟨_,_,rfl,rfl⟩)
   have df:=D_ ap;have⟨I,ao⟩:∃n:Nat,d.f=n:=⟨d.f.toNat,o_⟩;have a4:∀(tm:Tm),nth tm 91=.I (I:Int)->fb 1 (.eI f) tm (some (.t 91)) none=some (.eI (f.drop I)):=λtm e=>sj f e o_;have ay:=cE (h:=H6) (k:=w.z) (sz:=23) (cs:=aQ d) i rfl;have a1:=aS (vs:=aQ d) (sz:=23) aw rfl rfl;have D:=λo=>(show(H6.set h.z o).get w.z=_ from aA o_).trans i;rw[ao]at D i df;simp only[go_sem,W,ag,aj,m,ad,q,F,st,J,P,e5,O,dq,df,i,ay,a4,a1,D];refine fin _ _ _ (aQ d) (aQ d) jn _ (.eI (f.drop I)) true (.inr rfl) k_ k_ k_ k_ (Y.set _ (e_ _)) (aF _ _ _) rfl (by have:=xM d (H6.set h.z (.box (aQ d)));rw[bX]at this;exact this) (eQ _ _) ?_;rw[ab,P_ o_,ao,G_];exact⟨d,f.drop I,aq,rfl,rfl,lk.drop I,⟨c,hc,rfl⟩,by rw[List.length_drop];have:=(dg.cty c an).2;omega⟩
  have dq:decide ((f.length:Int)=((fD c.type).length:Int))=false:=d_;have a:cR (Ce env inst) t=none:=by rw[ab,N_ o_]
  simp only[go_sem,W,ag,aj,m,ad,q,F,st,J,P,e5,O,dq,C];exact fin _ _ _ zD zDl 0 _ (.ls []) false (.inr rfl) k_ k_ k_ k_ (Y.set _ (e_ _)) (by rw[aF];rfl) rfl (ox _) (dL _) (by rw[a];exact⟨_,_,rfl,rfl⟩)
 have W:=D_ hk;have C:=aS (vs:=zD) (sz:=23) al rfl rfl;have a:cR (Ce env inst) t=none:=by unfold cR;rw[u,N_ hk]
 unfold zD at C;simp only[go_sem,W,C];exact fin _ _ _ zD zDl 0 _ (.ls []) false (.inr rfl) k_ k_ k_ k_ (G.set _ o_) (by rw[aF];rfl) rfl (ox _) (dL _) (by rw[a];exact⟨_,_,rfl,rfl⟩)
end
theorem Qr (C:MK.Cx)(W:T->Option T)(i:Int)(nm:ByteArray)(ls:List LL)(f b:List T):MK.step C W (.mk 3 i nm ls f) b=match C.cst nm ls.length with
  |.rigid=>some (.stuck (.mk 3 i nm ls f) b)
  |.dfn v=>match C.inst v ls with
   |none=>some (.stuck (.mk 3 i nm ls f) b)
   |some x=>some (.next x b)
  |.rcr first h m g=>match b[h]? with
   |none=>some (.stuck (.mk 3 i nm ls f) b)
   |some a=>match W a with
    |none=>none
    |some c=>match cR C c with
     |none=>some (.stuck (.mk 3 i nm ls f) b)
     |some d=>if d.fam=m then
       match g[d.j]? with
       |none=>some (.stuck (.mk 3 i nm ls f) b)
       |some r=>match C.inst r ls with
        |none=>some (.stuck (.mk 3 i nm ls f) b)
        |some x=>some (.next x (b.take first++d.fields++b.drop (h+1)))
      else some (.stuck (.mk 3 i nm ls f) b)
  |.fn e j=>if b.length<e then some (.stuck (.mk 3 i nm ls f) b) else
   match mtT C W j (b.take e) with
   |none=>none
   |some none=>some (.stuck (.mk 3 i nm ls f) b)
   |some (some (l,k))=>match C.inst l ls with
    |none=>some (.stuck (.mk 3 i nm ls f) b)
    |some x=>some (.next (fM k.reverse x 0) (b.drop e)):=rfl
def zZ {first f:Nat}{h:ByteArray}{e:List T}(j:C.cst nm ls.length=.rcr first f h e)(W:T->Option T)(i:Int)(g b:List T):MK.step C W (.mk 3 i nm ls g) b=match b[f]? with
   |none=>some (.stuck (.mk 3 i nm ls g) b)
   |some a=>match W a with
    |none=>none
    |some c=>match cR C c with
     |none=>some (.stuck (.mk 3 i nm ls g) b)
     |some d=>if d.fam=h then
       match e[d.j]? with
       |none=>some (.stuck (.mk 3 i nm ls g) b)
       |some r=>match C.inst r ls with
        |none=>some (.stuck (.mk 3 i nm ls g) b)
        |some x=>some (.next x (b.take first++d.fields++b.drop (f+1)))
      else some (.stuck (.mk 3 i nm ls g) b):=by
 rw[Qr,j]
def iM:∀(n:Nat) (t:T),aO t<=n->(fD t).length<=aO t
 |0,t,h=>by have:=bI t;omega
 |n+1,.mk k i nm ls c,h=>by
  by_cases q:k=6/\c.length=2
  ·obtain⟨rfl,q⟩:=q
   match c,q with
   |[a,b],_=>
    rw[fD,P_ rfl];simp only[aO,ba]at h ⊢;have:=iM n b o_;rw[M_];omega
  rw[(DG q).1];simp
section
variable {K:aN}{A:Ma}{B B1:Nat}{E:AV}{env:List DV}{M:Ms}{gN gF:Nat}{h:AH}{C:MK.Cx}{inst:T->List LL->Option T}
def Wn (C:MK.Cx)(k:Nat):T->Option T:=λt=>wf C k t []
def Wq (K:aN)(A:Ma)(B B1:Nat)(E:AV)(C:MK.Cx)(b:Int):Prop:=∀(M:Ms) (gN gF:Nat) (h:AH) (x:Int) (t:T),St A B B1 E M gN gF h->Wg M->Ct M->Mem C M->b<=M.vis->At M.ts x t->
 Mc K A B B1 E (31) [] [.P A.a,.I x] M h λa v=>Mx C M a/\∃r u,v=.I r/\At a.ts r u/\Wh C t u
def inV (inst:T->List LL->Option T)(a:Ms)(t:T)(ls:List LL)(v:AV):Prop:=match inst t ls with
 |none=>v=.tup [.I 0,.bool false]
 |some u=>∃r,v=.tup [.I r,.bool true]/\At a.ts r u
def Ci (K:aN)(A:Ma)(B B1:Nat)(E:AV)(inst:T->List LL->Option T):Prop:=∀(M:Ms) (gN gF:Nat) (h:AH) (t:T) (ls:List LL),St A B B1 E M gN gF h->Wg M->TOK t->aO t<50000->(∀l∈ls,VL l)->ls.length<=8->
 Mc K A B B1 E (104) [] [.P A.a,enc t,.eL ls] M h λa v=>Sm M a/\inV inst a t ls v
def UR (C:MK.Cx)(c:Ms)(b:T)(a:List T)(v:AV):Prop:=
 (∃(j:Int) (z:List Int),v=.tup [.I j,.eI z,.bool false]/\∃k,MK.step C (Wn C k) b a=some (.stuck b a))\/
 (∃(r:Int) (z:List Int) (x:T) (l:List T),v=.tup [.I r,.eI z,.bool true]/\(∃k,MK.step C (Wn C k) b a=some (.next x l))/\At c.ts r x/\Lk c.ts z l/\z.length<=a.length+400)
def Sm.mx (s:Sm M a)(c:Ct M)(m:Mem C M)(le:Le M a):Mx C M a:=(s.v c).mx c m le
def PF (a b c:List Int)(h:AH):cw (.clip [.eI a,.eI b,.eI c]) h=(.ls ([a,b,c].map encZ),h):=by
 rw[bQ (by simp[AV.free,AV.frees,bY mA])];simp[AV.norm,AV.norms,encZ,bB ik]
theorem c1105 [RunsM K][kg:KG K](eg:Eg env)(wq:Wq K A B B1 (.eD env) (Ce env inst) v0)(ci:Ci K A B B1 (.eD env) inst)
  (s:St A B B1 (.eD env) M gN gF h) (g:Wg M) (c:Ct M) (az:Mem (Ce env inst) M) (hv:v0<=M.vis)   (nok:NOK i) (hk:i.D=3)     (hd:env[n]?=some d) (bg:d.D=3)
  (hc:oD env i.N i.L.length=.rcr (bM d) (bM d+((fD d.type).length:Int)-d.f).toNat d.N d.R) {b:List Int} {f:List T} (lk:Lk M.ts b f) (hl:b.length<9000000000) :
  Mc K A B B1 (.eD env) (105) [] [.P A.a,bU i,uN ⟨5,n,0,p,ty⟩,.eI b] M h λC v=>Mx (Ce env inst) M C/\UR (Ce env inst) C (ndT i ks) f v:=by
 refine iW ae5 ?_;have b1:=s.b1;have ra:=s.ok.rng.1;have dm:=m_ hd;have dg:=eg.dg d dm;have cc:=lk.len;have bv:(Ce env inst).cst i.N i.L.length=_:=hc;have bi:ndT i ks=.mk 3 i.X i.N i.L ks:=by unfold ndT;rw[hk]
 have l:=λW=>zZ bv W i.X ks f;rw[<-bi]at l;have⟨N,hH⟩:∃H:AH,H=(h.new (.box (bU i).cells)).new (.box (aY ⟨5,n,0,p,ty⟩)):=⟨_,rfl⟩;have n1:=aB h (.box (bU i).cells);have k0:HK h N:=by rw[hH];exact(HK.new _ _).add _
 have n0:N.z=h.z+2:=by rw[hH,aB,n1]
 have g5:N.get h.z=some (.box (bU i).cells):=by rw[hH,aM o_,aD]
 have g6:N.get (h.z+1)=some (.box (aY ⟨5,n,0,p,ty⟩)):=by rw[hH,<-n1,aD]
 have stuck:∀(tm:Tm) (J:AH) (C:Ms) (ab ad:Nat),nth tm 8=.I 0->nth tm 9=.nl->nth tm 10=.bool false->HM B B1 h J->St A B B1 (.eD env) C ab ad J->Wg C->Le M C->Mx (Ce env inst) M C->(∃k,MK.step (Ce env inst) (Wn (Ce env inst) k) (ndT i ks) f=some (.stuck (ndT i ks) f))->
   XQ (cS K) Wd (mD (PM B B1 h λv h'=>Gq A B B1 (.eD env) M h' λC=>Mx (Ce env inst) M C/\UR (Ce env inst) C (ndT i ks) f v)) .ret (F_ 105 tm) J:=by
  intro tm J C ab ad t8 t9 bk b3 st g' le mx hs;exact oB (vs:=[.I 0,.nl,.bool false]) (.inr rfl) (by simp only[go_sem,t8,t9,bk]) (bF (ae (aL _ _ _) (ae (dL _) (ae (bp _ _) (aH _))))) b3 ⟨C,ab,ad,st,g',le,mx,.inl ⟨0,[],rfl,hs⟩⟩
 rw[hG];simp only[go_sem,n1];rw[<-hH];clear hH;unfold bU at g5;simp only[AV.cells]at g5;have ag:=(s.hk (k0.trans (HK.new N (.box zD)))).gA;have ah:=((HK.new N (.box zD)).kw (h.z+1) o_).trans g6;have af:=aS (h:=N.new (.box zD)) (vs:=aQ d) (sz:=23) (aD _ _) rfl rfl;have ha:=aR encD_len hd .i64;have aw:=λh=>eA (v:=gJ d) (sz:=23) rfl rfl h;rw[bX]at ha aw;have⟨H1,bb,k1,_,a0⟩:=ns N (.box zD) (.box (aQ d));rw[<-bb]at af;clear bb;have a2:=k0.trans k1;have ak:=(s.hk a2).gA;have b2:=k1.up g5;have am:=k1.up g6;unfold kj at ag ak;unfold zD at ag ah af;unfold aY at ah am;have bq:cC (.ptr N.z 0 3) H1 true 5=some (.agg (aG d.type)):=by
  rw[fE,a0,aK,fh,lv _ _ _ (by show 3+5<=23;omega)];rfl
 obtain⟨_,J,e2,rfl,k2⟩:=c312 d.type H1 dg.ty;rw[eM]at e2;have cu:=k2.z;have V:=aS (h:=J.new (.box zT)) (vs:=aG (qv d.type)) (sz:=5) (aD _ _) rfl rfl;have⟨H3,Q⟩:∃H3:AH,H3=(J.new (.box zT)).set J.z (.box (aG (qv d.type))):=⟨_,rfl⟩;rw[<-Q,<-eM]at V;have k3:HK J H3:=by rw[Q];exact(HK.new _ _).set _ (e_ _)
 have c5:H3.z=J.z+1:=by rw[Q,aE,aB]
 clear Q;have aa:=k2.trans k3;have P:=a2.trans aa;have G:=aa.up a0;have bx:=aa.up b2;have s3:=s.hk P;unfold aQ at G;have c1:=dg.fx0;have cn:=dg.fx1 bg;have tl:(fD d.type).length<=50000:=by
  have:=iM _ d.type (e_ _);have:=dg.ty;omega
 have nc:=dg.ds.C;have⟨bl,_⟩:∃k:Nat,d.f=k:=⟨d.f.toNat,o_⟩;have bd:bM d=bl+1+d.C.length:=by unfold bM;omega
 have b8:=aW (d.f+1) o_ o_;have br:IntKind.wrap .i64 (d.f+1+(d.C.length:Int))=((bM d:Nat):Int):=by rw[aW _ o_ o_];omega
 have bf:IntKind.wrap .i64 (((bM d:Nat):Int)+((fD d.type).length:Int))=((bM d:Nat):Int)+((fD d.type).length:Int):=aW _ o_ o_;have⟨o,av⟩:∃o:Nat,(bM d:Int)+((fD d.type).length:Int)-d.f=o:=⟨((bM d:Int)+((fD d.type).length:Int)-d.f).toNat,o_⟩;have b0:IntKind.wrap .i64 (((bM d:Nat):Int)+((fD d.type).length:Int)-d.f)=(o:Int):=by rw[aW _ o_ o_];exact av
 rw[av,G_]at l;simp only[go_sem,ag,ah,ha,aw,af,bq,e2,V,G,b8,br,bf,b0];have ai:bM d<=o:=o_;refine aU (λhb=>?_) (λhb=>?_)
 ·simp only[go_sem];refine stuck _ H3 M gN gF k_ k_ k_ (HK.m P) s3 g (Le.refl M) (Mx.refl c az) ⟨0,?_⟩;rw[l,S_ o_]
 have bw:o<b.length:=o_;have X:=a_ bw;have⟨a,ea,be⟩:=lk.get X;have⟨_,_,e4,Z,q4⟩:=wq M gN gF H3 b[o] a s3 g c az hv be;simp only[go_sem,X];rcases q4 with⟨v,rfl,M4,U,O,a9,g4,z,y,r4,u,rfl,au,k4,wh⟩|rfl
 ·have⟨_,H6,e6,cr,k6⟩:=abN (inst:=inst) eg a9 g4 au;have cz:=Z.z;have cf:=k6.z;have D:=Z.trans (HK.m k6);have ay:=(HK.m P).trans D;have al:=(D.kw _ o_ (.inr o_)).trans G;have ca:=(D.kw _ o_ (.inr o_)).trans bx;have ar:=a9.hk k6;have hW:Wn (Ce env inst) k4 a=some u:=wh;cases S:cR (Ce env inst) u with
  |none=>
   rw[S]at cr;obtain⟨cs,_,rfl,b4⟩:=cr;have m:=aS (h:=H6.new (.box zD)) (vs:=cs) (sz:=23) (aD _ _) rfl b4;unfold zD at m;simp only[go_sem,e4,e6,m];refine stuck _ _ M4 U O k_ k_ k_ ((ay.new _).set _ (.inl o_)) ((ar.new _).set _ o_) g4 z y ⟨k4,?_⟩;rw[l,ea];simp only[hW,S]
  |some I=>
   rw[S]at cr;obtain⟨d2,F,_,rfl,t,b5,⟨_,_,_⟩,_⟩:=cr;have m:=aS (h:=H6.new (.box zD)) (vs:=aQ d2) (sz:=23) (aD _ _) rfl rfl;have⟨H7,a8,k7,_,aj⟩:=ns H6 (.box zD) (.box (aQ d2));rw[<-a8]at m;clear a8;have L:=ay.trans (HK.m k7);have q:=k7.up al;have aq:=k7.up ca;have ac:=ar.hk k7;unfold zD at m;unfold aQ at aj;have w:∀W,W a=some u->MK.step (Ce env inst) W (ndT i ks) f=if I.fam=d.N then
      match d.R[I.j]? with
      |none=>some (.stuck (ndT i ks) f)
      |some r=>match inst r i.L with
       |none=>some (.stuck (ndT i ks) f)
       |some x=>some (.next x (f.take (bM d)++I.fields++f.drop (o+1)))
     else some (.stuck (ndT i ks) f):=λW hw=>by
    rw[l,ea];simp only[hw,S];rfl
   simp only[go_sem,e4,e6,m,aj,q];by_cases hn:d2.N=d.N
   ·have dn:=T_ hn;by_cases hj:d.R.length<=I.j
    ·have dj:decide ((d.R.length:Int)<=(I.j:Int))=true:=t_;simp only[go_sem,dn,dj,q];refine stuck _ _ M4 U O k_ k_ k_ L ac g4 z y ⟨k4,?_⟩;rw[w _ hW,P_ (by rw[<-t];exact hn),S_ hj]
    have dj:decide ((d.R.length:Int)<=(I.j:Int))=false:=d_;have hr:d.R[I.j]?=some d.R[I.j]:=a_ o_;revert hr;generalize d.R[I.j]=rl;intro hr;have a4:=dg.R rl (m_ hr);have⟨_,H8,e8,R,q8⟩:=ci M4 U O H7 rl i.L ac g4 a4.1 a4.2 nok.nd.val (nok.nd.lev.2.1 hk);simp only[go_sem,dn,dj,q,hr,aq];rcases q8 with⟨v,rfl,M8,a6,a5,ao,g8,E,b9,iv⟩|rfl
    ·have ce:=(R.kw _ o_ (.inr o_)).trans q;have cx:=(R.kw _ o_ (.inr o_)).trans aq;have ap:=y.trans (b9.mx y.ct y.mem E);have Y:=L.trans R;unfold inV at iv;cases hi:inst rl i.L with
     |none=>
      rw[hi]at iv;subst iv;simp only[go_sem,e8];refine stuck _ _ M8 a6 a5 k_ k_ k_ Y ao g8 (z.trans E) ap ⟨k4,?_⟩;rw[w _ hW,P_ (by rw[<-t];exact hn),hr];simp only[hi]
     |some x=>
      rw[hi]at iv;obtain⟨r8,rfl,ax⟩:=iv;have a7:=BQ b (n:=bM d) o_;have cb:IntKind.wrap .i64 ((o:Int)+1)=((o+1:Nat):Int):=by rw[aW _ o_ o_];omega
      have a1:∀(tm:Tm),nth tm 105=.I ((o+1:Nat):Int)->fb 1 (.eI b) tm (some (.t 105)) none=some (.eI (b.drop (o+1))):=λtm e=>sj b e o_;obtain⟨_,_,e9,rfl,k9⟩:=abY [b.take (bM d),F,b.drop (o+1)] (by simp only[List.flatten_cons,List.flatten_nil,H_,Y_,List.length_drop,List.length_nil];omega) (by simp) H8;rw[<-dJ (f:=66) (c:=[]) (ae (PF (b.take (bM d)) F (b.drop (o+1)) H8) (aH _)) (ae (KH _ _) (aH _))]at e9;simp only[go_sem,e8,a7,cb,a1,e9];refine oB (vs:=[.I r8,.eI ([b.take (bM d),F,b.drop (o+1)].flatten),.bool true]) (.inr rfl) k_ (bF (ae (aL _ _ _) (ae (eQ _ _) (ae (bp _ _) (aH _))))) (Y.trans (HK.m k9)) ⟨M8,a6,a5,ao.hk k9,g8,z.trans E,ap,.inr ⟨r8,_,x,f.take (bM d)++I.fields++f.drop (o+1),rfl,⟨k4,?_⟩,ax,?_,?_⟩⟩
      ·rw[w _ hW,P_ (by rw[<-t];exact hn),hr];simp only[hi]
      ·have a3:=(z.trans E).lk lk;have bm:=E.lk b5;simp only[List.flatten_cons,List.flatten_nil,A_,V_];exact(a3.take (bM d)).append (bm.append (a3.drop (o+1)))
      simp only[List.flatten_cons,List.flatten_nil,H_,Y_,List.length_drop,List.length_nil];omega
    simp only[go_sem,e8];exact cP (L.trans R)
   have dn:=D_ hn;simp only[go_sem,dn];refine stuck _ H7 M4 U O ?_ ?_ ?_ L ac g4 z y ⟨k4,?_⟩
   ·simp only[go_sem]
   ·simp only[go_sem]
   ·simp only[go_sem]
   rw[w _ hW,N_ (by rw[<-t];exact hn)]
 simp only[go_sem,e4];exact cP ((HK.m P).trans Z)
end
def uO {a b:Nat}{agg:Bool}{h:AH}{V:AV}{out:List AV}(o:Own a b agg h V out):∀k g n,V=.row k g b 0 n->a<=k/\k<h.z:=by
 intro k g n e;subst e;obtain⟨_,⟨e,_⟩|⟨_,_,e,_,d,c⟩⟩:=o
 ·cases e
 cases e;exact⟨c,d⟩
def Lf {a:Nat}{c:gK}(g:C.cst nm ls.length=.fn a c)(W:T->Option T)(i:Int)(f b:List T):MK.step C W (.mk 3 i nm ls f) b=if b.length<a then some (.stuck (.mk 3 i nm ls f) b) else
   match mtT C W c (b.take a) with
   |none=>none
   |some none=>some (.stuck (.mk 3 i nm ls f) b)
   |some (some (e,d))=>match C.inst e ls with
    |none=>some (.stuck (.mk 3 i nm ls f) b)
    |some x=>some (.next (fM d.reverse x 0) (b.drop a)):=by
 rw[Qr,g]
theorem Ej (C:MK.Cx)(W:T->Option T)(nm:ByteArray)(b:List T):∀l:List Br,mtB C W l nm b=match chs nm l with
  |none=>some none
  |some (d,t)=>if d then some none else mtT C W t b
 |[]=>by unfold mtB chs;rfl
 |.mk c a t::l=>by
  unfold mtB chs;by_cases h:c=nm
  ·rw[P_ h,P_ h]
  rw[N_ h,N_ h];exact Ej C W nm b l
def Hg (C:MK.Cx)(W:T->Option T)(t:gK)(a:List T)(h:¬lV t=1):mtT C W t a=some (some (fV t,a)):=by
 have⟨_,_,_,_⟩:=t;unfold mtT;exact N_ h
def sE (C:MK.Cx)(W:T->Option T)(t:gK)(a:List T)(h:lV t=1):mtT C W t a=if 0<=eW t then
    match a[(eW t).toNat]? with
    |none=>some none
    |some x=>match W x with
     |none=>none
     |some c=>match cR C c with
      |none=>some none
      |some d=>mtB C W (cm t) d.N (a++d.fields)
   else some none:=by
 have⟨_,_,_,_⟩:=t;unfold mtT;exact P_ h
def zc {t:gK}(h:Ke t n):TOK (fV t)/\aO (fV t)<50000/\(cm t).length<1000/\VH (cm t) n:=by
 have⟨_,_,_,_⟩:=t;unfold Ke at h;exact h
@[go_sem] def faddr_dF (d:DV):cy (.vp (.agg (aQ d))) 22 1 false=some (.vp (.ls (d.F.map gk))):=rfl
@[go_sem] def faddr_cN (c:CtV):cy (.vp (.agg (oK c))) 0 1 false=some (.vp (.str c.N)):=rfl
section
variable {K:aN}{A:Ma}{B B1:Nat}{env:List DV}{M:Ms}{gN gF:Nat}{h:AH}{inst:T->List LL->Option T}
structure J1106 (A:Ma)(B B1:Nat)(env:List DV)(inst:T->List LL->Option T)(M:Ms)(nv:NV)(f:FnV)(as_:List T)(b5 b11 b13 base:Nat)(h0 h:AH)(M':Ms)(gN gF:Nat)(t:gK)(n:Nat)(V:AV)(vids:List Int)(vts:List T):Prop where
 gs:Gs A B B1 (.eD env) M h0 h M' gN gF
 mx:Mx (Ce env inst) M M'
 tr:Ke t n
 g5:h.get b5=some (.box (n_ nv))
 g11:h.get b11=some (.box (iw f))
 g13:h.get b13=some (.box (bc t))
 own:Own base 1 false h V (vids.map AG.bh)
 vk:∀k g n,V=.row k g 1 0 n->k≠b13
 lk:Lk M'.ts vids vts
 len:vids.length+400*n<=20016
 lt:B1<=b5/\B1<=b11/\B1<=b13/\b5<h.z/\b11<h.z/\b13<h.z/\b5<base/\b11<base/\b5≠b13/\b11≠b13/\B1<=base/\h0.z<=b5/\h0.z<=b11/\h0.z<=b13/\h0.z<=base
 mt:∃k0,∀k,k0<=k->mtT (Ce env inst) (Wn (Ce env inst) k) f.tree (as_.take f.a.toNat)=mtT (Ce env inst) (Wn (Ce env inst) k) t vts
def I1106 (A:Ma)(B B1:Nat)(env:List DV)(inst:T->List LL->Option T)(M:Ms)(n:NV)(f:FnV)(e:List Int)(g:List T)(i b11 c b:Nat)(k:AH)(j:Nat)(m:AF)(h:AH):Prop:=∃tm l gN gF t V a d,m=F_ 106 tm/\
 nth tm 0=.P A.a/\nth tm 3=.eI e/\nth tm 5=.P i/\nth tm 11=.P b11/\nth tm 12=V/\nth tm 13=.P c/\J1106 A B B1 env inst M n f g i b11 c b k h l gN gF t j V a d
def c1106 [RunsM K][km:KM K](eg:Eg env)(wq:Wq K A B B1 (.eD env) (Ce env inst) v0)(ci:Ci K A B B1 (.eD env) inst)
  (s:St A B B1 (.eD env) M gN gF h) (g:Wg M) (c:Ct M) (dx:Mem (Ce env inst) M) (hv:v0<=M.vis) {r:NV}  (nok:NOK r) (hk:r.D=3) {i:Nat}  {f:FnV}   (hd:env[n]?=some d) (hf:d.F[i]?=some f)
  (hc:oD env r.N r.L.length=.fn f.a.toNat f.tree) {C:List Int} {o:List T} (lk:Lk M.ts C o) (_hl:C.length<9000000000) :
  Mc K A B B1 (.eD env) (106) [] [.P A.a,bU r,uN ⟨6,n,i,p,ty⟩,.eI C] M h λM' v=>Mx (Ce env inst) M M'/\UR (Ce env inst) M' (ndT r ks) o v:=by
 refine iW ae4 ?_;have b1:=s.b1;have ra:=s.ok.rng.1;have dm:=m_ hd;have dg:=eg.dg d dm;have fd:=lk.len;have⟨_,_,dt⟩:=dg.F f (m_ hf);have e3:(Ce env inst).cst r.N r.L.length=_:=hc;have en:ndT r ks=.mk 3 r.X r.N r.L ks:=by unfold ndT;rw[hk]
 have F:=λW=>Lf e3 W r.X ks o;rw[<-en]at F;have⟨H0,hH⟩:∃H:AH,H=(h.new (.box (bU r).cells)).new (.box (aY ⟨6,n,i,p,ty⟩)):=⟨_,rfl⟩;have n1:=aB h (.box (bU r).cells);have k0:HK h H0:=by rw[hH];exact(HK.new _ _).add _
 have n0:H0.z=h.z+2:=by rw[hH,aB,n1]
 have g5:H0.get h.z=some (.box (bU r).cells):=by rw[hH,aM o_,aD]
 have g6:H0.get (h.z+1)=some (.box (aY ⟨6,n,i,p,ty⟩)):=by rw[hH,<-n1,aD]
 have stuck:∀(tm:Tm) (Y:AH) (M':Ms) (ca bv:Nat),nth tm 8=.I 0->nth tm 9=.nl->nth tm 10=.bool false->HM B B1 h Y->St A B B1 (.eD env) M' ca bv Y->Wg M'->Le M M'->Mx (Ce env inst) M M'->(∃k,MK.step (Ce env inst) (Wn (Ce env inst) k) (ndT r ks) o=some (.stuck (ndT r ks) o))->
   XQ (cS K) Wc (mD (PM B B1 h λv h'=>Gq A B B1 (.eD env) M h' λM'=>Mx (Ce env inst) M M'/\UR (Ce env inst) M' (ndT r ks) o v)) .ret (F_ 106 tm) Y:=by
  intro tm Y M' ca bv t8 t9 et eu st g' le mx hs;exact oB (vs:=[.I 0,.nl,.bool false]) (.inr rfl) (by simp only[go_sem,t8,t9,et]) (bF (ae (aL _ _ _) (ae (dL _) (ae (bp _ _) (aH _))))) eu ⟨M',ca,bv,st,g',le,mx,.inl ⟨0,[],rfl,hs⟩⟩
 rw[hG];simp only[go_sem,n1];rw[<-hH];clear hH;unfold bU at g5;simp only[AV.cells]at g5;let ar:List AV:=[.str (bs []),.I 0,.I 0,.str (bs []),.nl,.nl,.I 0,.I 0,.I 0,.I 0,.str (bs []),.nl,.nl,.I 0,.nl]
 have b5:=(s.hk (k0.trans (HK.new H0 (.box ar)))).gA;have b8:=((HK.new H0 (.box ar)).kw (h.z+1) o_).trans g6;have a0:=aS (h:=H0.new (.box ar)) (vs:=iw f) (sz:=15) (aD _ _) rfl rfl;have ha:=aR encD_len hd .i64;have hb:=aR encFn_len hf .i64;have d0:=λh=>eA (v:=gk f) (sz:=15) rfl rfl h;rw[bX]at ha;rw[AA]at hb d0;have⟨H1,dp,k1,_,ck⟩:=ns H0 (.box ar) (.box (iw f));rw[<-dp]at a0;clear dp;have b0:=k0.trans k1;have s1:=s.hk b0;have dj:=s1.gA;have ej:=k1.up g5;have cn:=k1.up g6;have ah:=ck;unfold kj at b5 dj;unfold aY at b8 cn;unfold iw at ah;simp only[ar]at b5 b8 a0;have⟨an,ak⟩:∃an:Nat,f.a=an:=⟨f.a.toNat,o_⟩;rw[ak]at ah;rw[ak,G_]at F;simp only[go_sem,b5,b8,ha,hb,d0,a0,ah];refine aU (λft=>?_) (λfx=>?_)
 ·simp only[go_sem];refine stuck _ H1 M gN gF k_ k_ k_ (HK.m b0) s1 g (Le.refl M) (Mx.refl c dx) ⟨0,?_⟩;rw[F,P_ o_]
 have ec:=BQ C (n:=an) o_;have⟨V,Y,e2,o2,k2⟩:=c1147 (C.take an) (by intro e;have:=congrArg List.length e;rw[Y_,List.length_nil]at this;omega) (by rw[Y_];omega) H1;have f2:=k2.z;have aw:=k2.up ck;have cz:=k2.up ej;have db:cC (.ptr H0.z 0 7) Y true 8=some (.agg (bc f.tree)):=by
  rw[fE,aw,aK,fh,lv _ _ _ (by show 7+8<=15;omega)];rfl
 have ao:=aS (h:=Y.new (.box [.I 0,.I 0,.I 0,.str (bs []),.nl,.nl,.I 0,.nl])) (vs:=bc f.tree) (sz:=8) (aD _ _) rfl rfl;have⟨_,c1,k3,_,w⟩:=ns Y (.box [.I 0,.I 0,.I 0,.str (bs []),.nl,.nl,.I 0,.nl]) (.box (bc f.tree));rw[<-c1]at ao;clear c1;have dc:=(b0.trans k2).trans k3;simp only[go_sem,ah,ec,e2,db,ao];refine bo (I1106 A B B1 env inst M r f C o h.z H0.z Y.z H1.z h) 50 o_ ⟨_,M,gN,gF,f.tree,V,C.take an,o.take an,rfl,k_,k_,k_,k_,k_,k_,
  ⟨⟨s.hk dc,g,Le.refl M,HK.m dc⟩,Mx.refl c dx,dt,k3.up cz,k3.up aw,w,bP o2 k3.z (λk q1 S=>k3.kw k S),(λk g n e=>by have:=(uO o2 k g n e).2;omega),lk.take an,by rw[Y_];omega,o_,⟨0,λk _=>by rw[ak,G_]⟩⟩⟩ ?_
 clear e2 o2 ao w db aw cz a0;rintro j fr H4 ⟨tm,M4,a4,a1,t,V4,m,U,rfl,t0,t3,t5,a6,aj,O,J⟩;have⟨di,ef,ed,dr⟩:=zc J.tr;have w:=J.g13;have D:=J.gs;have fe:=D.hm.z;have⟨l5,cl,eb,x5,dd,es,_,c5,_,_,_,_,_,_,_⟩:=J.lt;have⟨L,a7⟩:=J.mt;rw[ak,G_]at a7;have ad:=Mp J.own;rw[L_]at ad;have bb:¬o.length<an:=o_;have l:∀k,L<=k->mtT (Ce env inst) (Wn (Ce env inst) k) t U=some none->∃k,MK.step (Ce env inst) (Wn (Ce env inst) k) (ndT r ks) o=some (.stuck (ndT r ks) o):=λk b2 e=>⟨k,by rw[F,N_ bb,a7 k b2,e]⟩;unfold bc fS at w;simp only[go_sem,O,w];by_cases y:lV t=1
 ·have dk:=T_ y;by_cases ch:eW t<0
  ·have dv:=T_ ch;simp only[go_sem,dk,dv,O,w];refine stuck _ H4 M4 a4 a1 k_ k_ k_ D.hm D.st D.g D.le J.mx (l L (e_ _) ?_);rw[sE _ _ _ _ y,N_ o_]
  have dv:=D_ ch;have⟨vn,bw⟩:∃vn:Nat,eW t=vn:=⟨(eW t).toNat,o_⟩;by_cases em:m.length<=vn
  ·have a9:decide ((m.length:Int)<=eW t)=true:=t_;simp only[go_sem,dk,dv,a9,aj,O,w,ad];refine stuck _ H4 M4 a4 a1 k_ k_ k_ D.hm D.st D.g D.le J.mx (l L (e_ _) ?_);rw[sE _ _ _ _ y,P_ o_,bw,G_,S_ (by rw[<-J.lk.len];exact em)]
  have a9:decide ((m.length:Int)<=eW t)=false:=d_;have be:vn<m.length:=o_;have af:=a_ be;have⟨a,ea,br⟩:=J.lk.get af;revert af br;generalize m[vn]=x;intro af br;have⟨kk,gg,hV,S,_,_⟩:=vP J.own (by rw[L_];omega);rw[L_]at hV;have hi:=jf (kk:=kk) (g:=gg) (sz:=1) (n:=m.length) (a:=vn) be .i64;have df:=rO (a:=vn) (x:=AG.bh x) S (by rw[Bx,List.getElem?_map,af];rfl);rw[<-hV]at hi;unfold AG.bh at df;have⟨o5,H5,e5,G,q5⟩:=wq M4 a4 a1 H4 x a D.st D.g J.mx.ct J.mx.mem (Int.le_trans hv J.mx.vis) br;have ce:∀W,mtT (Ce env inst) W t U=match W a with
    |none=>none
    |some c=>match cR (Ce env inst) c with
     |none=>some none
     |some d=>mtB (Ce env inst) W (cm t) d.N (U++d.fields):=λW=>by
   rw[sE _ _ _ _ y,P_ o_,bw,G_,ea]
  rw[bw]at w dv a9;simp only[go_sem,dk,dv,a9,t0,aj,O,w,ad,hi,df];rcases q5 with⟨v,rfl,M5,N,P,aq,R,Q,Z,r5,u,rfl,au,k5,wh⟩|rfl
  ·have⟨v6,H6,e6,cr,k6⟩:=abN (inst:=inst) eg aq R au;have d8:=G.z;have fm:=k6.z;have bi:=G.trans (HK.m k6);have b9:=D.hm.trans bi;have a5:∀b,B1<=b->b<H4.z->H6.get b=H4.get b:=λb q1 S=>bi.kw _ S (.inr (.inl q1));have bk:=(a5 _ eb es).trans J.g13;have er:=(a5 _ l5 x5).trans J.g5;have E:=(a5 _ cl dd).trans J.g11;have de:=aq.hk k6;have ag:=D.le.trans Q;have ai:=J.mx.trans Z;have hW:∀k,max L k5<=k->Wn (Ce env inst) k a=some u:=λk hk=>xI (C_ (Nat.le_max_right _ _) hk) wh;have cc:=bP J.own (h':=H6) o_ (λb q1 S=>a5 b o_ S);cases a2:cR (Ce env inst) u with
   |none=>
    rw[a2]at cr;obtain⟨cs,_,rfl,d6⟩:=cr;have z:=aS (h:=H6.new (.box zD)) (vs:=cs) (sz:=23) (aD _ _) rfl d6;unfold zD at z;simp only[go_sem,e5,e6,z];refine stuck _ _ M5 N P k_ k_ k_ ((b9.new _).set _ (.inl o_)) ((de.new _).set _ o_) R ag ai (l _ (Nat.le_max_left _ k5) ?_);rw[ce,hW _ (e_ _)];simp only[a2]
   |some cv=>
    rw[a2]at cr;obtain⟨d2,bf,_,rfl,_,el,⟨c2,d4,d9⟩,_⟩:=cr;have z:=aS (h:=H6.new (.box zD)) (vs:=aQ d2) (sz:=23) (aD _ _) rfl rfl;have⟨H7,dl,k7,_,ay⟩:=ns H6 (.box zD) (.box (aQ d2));rw[<-dl]at z;clear dl;have bq:=b9.trans (HK.m k7);have cq:=k7.up bk;have av:=cE (sz:=8) cq rfl;have a3:=aR encCt_len d4 .i64;rw[AB]at a3;have am:∀k,max L k5<=k->mtT (Ce env inst) (Wn (Ce env inst) k) t U=match chs c2.N (cm t) with
      |none=>some none
      |some (ab,t)=>if ab then some none else mtT (Ce env inst) (Wn (Ce env inst) k) t (U++cv.fields):=λk hk=>by
     rw[ce,hW k hk];simp only[a2];rw[Ej,d9]
    obtain⟨_,H8,e8,rfl,k8⟩:=c1148 t c2.N H7 ed;have d3:=k8.z;have al:=k7.trans k8;have aa:=b9.trans (HK.m al);have bg:=al.up bk;have eo:=al.up er;have I:=al.up E;have cb:=k8.up ay;have cx:=bP cc (h':=H8) o_ (λb q1 S=>al.kw b S);have az:=de.hk al;unfold zD at z;unfold aQ at ay cb;cases b4:chs c2.N (cm t) with
    |none=>
     rw[b4]at e8 am;have X:=aS (h:=H8) (k:=Y.z) (vs:=[.I 0,.I 0,.I 0,.str (bs []),.ls [],.ls [],.I 0,.ls []]) (sz:=8) bg rfl rfl;unfold chV at e8;simp only[go_sem,e5,e6,z,O,av,ay,a3,e8,X];refine stuck _ _ M5 N P k_ k_ k_ (aa.set _ (.inl o_)) (az.set _ o_) R ag ai (l _ (Nat.le_max_left _ k5) ?_);exact am _ (e_ _)
    |some q=>
     have⟨ab,tr⟩:=q;rw[b4]at e8 am;have X:=aS (h:=H8) (k:=Y.z) (vs:=bc tr) (sz:=8) bg rfl rfl;obtain⟨jn,rfl,cf⟩:=KE dr b4;unfold chV at e8;have⟨H9,ac⟩:∃H9:AH,H9=H8.set Y.z (.box (bc tr)):=⟨_,rfl⟩;rw[<-ac]at X;have dy:H9.get Y.z=some (.box (bc tr)):=by rw[ac,aF]
     have o9:∀k,k≠Y.z->H9.get k=H8.get k:=λk hk=>by rw[ac,aA hk]
     have f1:H9.z=H8.z:=by rw[ac,aE]
     have b3:HM B B1 h H9:=by rw[ac];exact aa.set _ (.inl o_)
     have c9:St A B B1 (.eD env) M5 N P H9:=by rw[ac];exact az.set _ o_
     clear ac;cases ab with
     |true=>
      simp only[go_sem,e5,e6,z,O,av,ay,a3,e8,X];refine stuck _ _ M5 N P k_ k_ k_ b3 c9 R ag ai (l _ (Nat.le_max_left _ k5) ?_);exact am _ (e_ _)
     |false=>
      have c8:=J.len;have cu:=Ch cx (h':=H9) o_ (λk g n e q1 S=>o9 k (J.vk k g n e));have⟨e1,bx,d5,ek,ey,_,co,dz⟩:=acs cu o_ bf o_;have f0:=λk (q:k≠Y.z)=>(uO J.own);have ap:∀k,k<H1.z\/k=Y.z->bx.get k=H9.get k:=λk hk=>dz k o_ (λg n e=>by
       have q1:=uO J.own k g n e;have S:=J.vk k g n e;omega)
      have cg:St A B B1 (.eD env) M5 N P bx:=c9.up ey (λk _ q=>ap k (.inl o_));have dn:HM B B1 h bx:=⟨by have:=b3.z;omega,λk q1 S=>(ap k (.inl o_)).trans (b3.kw k q1 S)⟩;simp only[go_sem,e5,e6,z,O,av,ay,a3,e8,X,aj,d5];refine⟨jn,o_,_,M5,N,P,tr,e1,m++bf,U++cv.fields,rfl,q_ t0,q_ t3,q_ t5,q_ a6,k_,q_ O,
       ⟨⟨cg,R,ag,dn⟩,ai,cf,?_,?_,?_,ek,?_,?_,?_,?_,⟨max L k5,λk hk=>?_⟩⟩⟩
      ·rw[ap _ (.inl o_),o9 _ o_];exact eo
      ·rw[ap _ (.inl o_),o9 _ o_];exact I
      ·rw[ap _ (.inr rfl)];exact dy
      ·intro k g n e;rcases co k g n e with rfl|⟨g',n',e'⟩
       ·omega
       exact J.vk k g' n' e'
      ·exact(Q.lk J.lk).append el
      ·rw[H_];omega
      ·omega
      rw[ak,G_,a7 k (C_ (Nat.le_max_left _ _) hk)];exact am k hk
  simp only[go_sem,e5];exact cP (D.hm.trans G)
 have dk:=D_ y;have eq:cC (.ptr Y.z 0 1) H4 true 5=some (.agg (aG (fV t))):=by
  rw[fE,J.g13,aK,fh,lv _ _ _ (by show 1+5<=8;omega)];rfl
 have g5:=J.g5;have⟨_,H5,e5,G,q5⟩:=ci M4 a4 a1 H4 (fV t) r.L D.st D.g di ef nok.nd.val (nok.nd.lev.2.1 hk);rw[eM]at e5;have bl:∀k,L<=k->MK.step (Ce env inst) (Wn (Ce env inst) k) (ndT r ks) o=match inst (fV t) r.L with
   |none=>some (.stuck (ndT r ks) o)
   |some x=>some (.next (fM U.reverse x 0) (o.drop an)):=λk b2=>by
  rw[F,N_ bb,a7 k b2,Hg _ _ _ _ y];rfl
 simp only[go_sem,dk,t0,t5,O,eq,g5];rcases q5 with⟨v,rfl,M5,N,P,aq,R,Q,d7,iv⟩|rfl
 ·have Z:=J.mx.trans (d7.mx J.mx.ct J.mx.mem Q);have d8:=G.z;have own5:=bP J.own (h':=H5) o_ (λb q1 S=>G.kw b S (.inr o_));unfold inV at iv;cases hi:inst (fV t) r.L with
  |none=>
   rw[hi]at iv;subst iv;simp only[go_sem,e5];refine stuck _ H5 M5 N P k_ k_ k_ (D.hm.trans G) aq R (D.le.trans Q) Z ⟨L,?_⟩;rw[bl _ (e_ _)];simp only[hi]
  |some x=>
   rw[hi]at iv;obtain⟨r5,rfl,ax⟩:=iv;have c8:=J.len;obtain⟨_,H6,e6,rfl,o6,_,k6⟩:=abS m V4 H1.z H5 own5 o_;have⟨H7,ee,_,k7⟩:=uZ o6;have c4:∀k,k<H1.z->H7.get k=H5.get k:=λk hk=>(k7 k hk).trans (k6 k hk);have eh:St A B B1 (.eD env) M5 N P H7:=aq.up o_ (λk _ q=>c4 k o_);have bq:HM B B1 h H7:=⟨by have:=D.hm.z;omega,λk q1 S=>(c4 k o_).trans ((D.hm.trans G).kw k q1 S)⟩;have⟨_,_,e8,aa,q8⟩:=WT eh R Z.ct ax (Q.lk J.lk).rev (by rw[List.length_reverse];omega);rw[<-dJ (f:=62) (c:=[]) (ae (bS A.a 0 0 H6) (ae (aL .i64 r5 H6) (ae ee (aH _)))) (ae (bS _ _ _ _) (ae (aL _ _ _) (ae (eQ _ _) (aH _))))]at e8;have E:=(((k6 _ c5).trans (G.kw _ dd (.inr (.inl cl))))).trans J.g11;have d3:=aa.z;have I:=(aa.kw H0.z o_ (.inr o_)).trans ((k7 _ c5).trans E);unfold iw at I E;rw[ak]at I E;have bd:∀(tm:Tm),nth tm 109=.I (an:Int)->fb 1 (.eI C) tm (some (.t 109)) none=some (.eI (C.drop an)):=λtm e=>sj C e o_;simp only[go_sem,e5,aj,e6,t0];rcases q8 with⟨v,rfl,M8,e4,ew,az,g8,bm,d1,r8,rfl,a8⟩|rfl
   ·simp only[go_sem,e8,t3,a6,I,E,bd];refine oB (vs:=[.I r8,.eI (C.drop an),.bool true]) (.inr rfl) k_ (bF (ae (aL _ _ _) (ae (eQ _ _) (ae (bp _ _) (aH _))))) (bq.trans aa) ⟨M8,e4,ew,az,g8,(D.le.trans Q).trans bm,Z.trans (d1.mx Z.ct Z.mem bm),.inr ⟨r8,C.drop an,fM U.reverse x 0,o.drop an,rfl,⟨L,?_⟩,a8,(((D.le.trans Q).trans bm).lk lk).drop an,by rw[List.length_drop];omega⟩⟩;rw[bl _ (e_ _)];simp only[hi]
   simp only[go_sem,e8,t3,a6,E,bd];exact cP (bq.trans aa)
 simp only[go_sem,e5];exact cP (D.hm.trans G)
end
def yx (c:C.cst nm ls.length=.rigid)(W:T->Option T)(i:Int)(b a:List T):MK.step C W (.mk 3 i nm ls b) a=some (.stuck (.mk 3 i nm ls b) a):=by
 rw[Qr,c]
def Gv {v:T}(c:C.cst nm ls.length=.dfn v)(W:T->Option T)(i:Int)(b a:List T):MK.step C W (.mk 3 i nm ls b) a=match C.inst v ls with
   |none=>some (.stuck (.mk 3 i nm ls b) a)
   |some x=>some (.next x a):=by
 rw[Qr,c]
@[go_sem] def faddr_dV (d:DV):cy (.vp (.agg (aQ d))) 8 5 true=some (.vp (.agg (aG d.v))):=rfl
section
variable {K:aN}{A:Ma}{B B1:Nat}{env:List DV}{M:Ms}{gN gF:Nat}{h:AH}{inst:T->List LL->Option T}
def c1064 [RunsM K][km:KM K][kg:KG K](eg:Eg env)(wq:Wq K A B B1 (.eD env) (Ce env inst) v0)(ci:Ci K A B B1 (.eD env) inst)
  (s:St A B B1 (.eD env) M gN gF h) (g:Wg M) (c:Ct M) (I:Mem (Ce env inst) M) (hv:v0<=M.vis)   (nok:NOK i) (hk:i.D=3) {G:List Int} {q:List T} (lk:Lk M.ts G q) (hl:G.length<9000000000) :
  Mc K A B B1 (.eD env) (64) [] [.P A.a,bU i,.eI G] M h λE v=>Mx (Ce env inst) M E/\UR (Ce env inst) E (ndT i ks) q v:=by
 refine iW afw ?_;have b1:=s.b1;have ra:=s.ok.rng.1;have ak:ndT i ks=.mk 3 i.X i.N i.L ks:=by unfold ndT;rw[hk]
 have⟨H0,hH⟩:∃H:AH,H=h.new (.box (bU i).cells):=⟨_,rfl⟩;have k0:HK h H0:=by rw[hH];exact HK.new _ _
 have n0:H0.z=h.z+1:=by rw[hH,aB]
 have g4:H0.get h.z=some (.box (bU i).cells):=by rw[hH,aD]
 have s0:=s.hk k0;obtain⟨v,H1,U,rfl,k1⟩:=abQ s0 i eg.ds eg.len;have ap:=k1.z;have ab:=k0.trans k1;have ao:=k1.up g4;have al:=cE (sz:=5) g4 rfl;have fin:∀(tm:Tm) (Z:AH) (E:Ms) (aa ad:Nat) (j:Int) (z z':AV) (b:Bool),nth tm 6=.I j->nth tm 7=z->nth tm 8=.bool b->HM B B1 h Z->St A B B1 (.eD env) E aa ad Z->Wg E->Le M E->Mx (Ce env inst) M E->cw z Z=(z',Z)->UR (Ce env inst) E (ndT i ks) q (.tup [.I j,z',.bool b])->
   XQ (cS K) Wp (mD (PM B B1 h λv h'=>Gq A B B1 (.eD env) M h' λE=>Mx (Ce env inst) M E/\UR (Ce env inst) E (ndT i ks) q v)) .ret (F_ 64 tm) Z:=by
  intro tm Z E aa ad j z z' b t6 t7 t8 an st g' le mx hz hu;exact oB (vs:=[.I j,z,.bool b]) (.inr rfl) (by simp only[go_sem,t6,t7,t8]) (bF (ae (aL _ _ _) (ae hz (ae (bp _ _) (aH _))))) an ⟨E,aa,ad,st,g',le,mx,hu⟩
 have N:∀E,oD env i.N i.L.length=.rigid->UR (Ce env inst) E (ndT i ks) q (.tup [.I 0,.ls [],.bool false]):=λE hc=>.inl ⟨0,[],rfl,0,by rw[ak];exact yx hc _ _ _ _⟩;unfold acn;simp only[go_sem];rw[<-hH];clear hH;rw[<-show(AV.agg (bU i).cells)=bU i from rfl]at U;simp only[go_sem,Mf,al];unfold Ip at U;rw[P_ hk]at U;cases P:fG i.N env 0 with
 |none=>
  rw[P]at U;have F:=aS (h:=H1.new (.box zE)) (vs:=zEl) (sz:=9) (aD _ _) rfl rfl;unfold zE at F;simp only[go_sem,U,F,zq];exact fin _ _ M gN gF 0 .nl (.ls []) false k_ k_ k_ ((HK.m ((ab.add _).set _ o_))) ((s.hk ((ab.add _).set _ o_))) g (Le.refl M) (Mx.refl c I) (dL _) (N M (by unfold oD;rw[P]))
 |some e=>
  rw[P]at U;have ent:=jm env env 0 e (λj=>by rw[z_]) P;have F:=aS (h:=H1.new (.box zE)) (vs:=aY e) (sz:=9) (aD _ _) rfl rfl;have⟨Z,ah,k2,_,S⟩:=ns H1 (.box zE) (.box (aY e));rw[<-ah]at F;clear ah;have m:=ab.trans k2;have s2:=s.hk m;have af:=k2.up ao;have V:=cE (sz:=5) af rfl;have ag:=cE (sz:=9) S rfl;unfold zE at F;by_cases hp:e.Q=(i.L.length:Int)
  ·have dp:=T_ hp;have L:∀n d,e.decl=(n:Nat)->env[n]?=some d->oD env i.N i.L.length=if e.D=1 then .dfn d.v
     else if e.D=5 then .rcr (bM d) (bM d+((fD d.type).length:Int)-d.f).toNat d.N d.R
     else if e.D=6 then match d.F[e.item.toNat]? with
      |none=>.rigid
      |some f=>.fn f.a.toNat f.tree
     else .rigid:=λn d O h2=>by
    unfold oD;rw[P];simp only;rw[P_ hp,O,G_,h2];rfl
   simp only[go_sem,U,dp,F,zq,Mg];cases ent with
   |plain k n d p t O h2 h3=>
    have a:=L n d rfl O;simp only at a;unfold aY at S;by_cases ac:k=1
    ·subst ac;rw[P_ rfl]at a;have dg:=eg.dg d (m_ O);have⟨tv,sv⟩:=dg.v h2;have ha:=aR encD_len O .i64;rw[bX]at ha;have aj:=s2.gA;unfold kj at aj;have⟨o8,H8,J,o,q8⟩:=ci M gN gF Z d.v i.L s2 g tv sv nok.nd.val (nok.nd.lev.2.1 hk);rw[eM]at J;have Q:=af;unfold bU at Q;simp only[AV.cells]at Q;have ai:∀W,MK.step (Ce env inst) W (ndT i ks) q=match inst d.v i.L with
       |none=>some (.stuck (ndT i ks) q)
       |some x=>some (.next x q):=λW=>by rw[ak];exact Gv a W i.X ks q
     simp only[go_sem,S,aj,ha,Q];rcases q8 with⟨v,rfl,X,D,C,w,Y,u,am,iv⟩|rfl
     ·have y:=am.mx c I u;unfold inV at iv;cases hi:inst d.v i.L with
      |none=>
       rw[hi]at iv;subst iv;simp only[go_sem,J];exact fin _ _ X D C 0 (.eI G) _ false k_ k_ k_ ((HK.m m).trans o) w Y u y (eQ _ _) (.inl ⟨0,G,rfl,0,by rw[ai];simp only[hi]⟩)
      |some x=>
       rw[hi]at iv;obtain⟨r8,rfl,ax⟩:=iv;simp only[go_sem,J];exact fin _ _ X D C r8 (.eI G) _ true k_ k_ k_ ((HK.m m).trans o) w Y u y (eQ _ _) (.inr ⟨r8,G,x,q,rfl,⟨0,by rw[ai];simp only[hi]⟩,ax,u.lk lk,by rw[lk.len];omega⟩)
     simp only[go_sem,J];exact cP ((HK.m m).trans o)
    rw[N_ ac,N_ o_,N_ o_]at a;have d5:decide (k=5)=false:=d_;have d6:decide (k=6)=false:=d_;simp only[go_sem,S,ac,d5,d6,Ec];exact fin _ _ M gN gF 0 .nl (.ls []) false k_ k_ k_ (HK.m m) s2 g (Le.refl M) (Mx.refl c I) (dL _) (N M a)
   |ctor n j d ct p O h2 h3=>
    have a:=L n d rfl O;simp only at a;rw[N_ o_,N_ o_,N_ o_]at a;unfold aY at S;simp only[go_sem,S,Ec];exact fin _ _ M gN gF 0 .nl (.ls []) false k_ k_ k_ (HK.m m) s2 g (Le.refl M) (Mx.refl c I) (dL _) (N M a)
   |rcr n d p t O h2=>
    have a:=L n d rfl O;simp only at a;rw[N_ o_,P_ trivial]at a;have⟨o8,H8,J,o,q8⟩:=c1105 eg wq ci s2 g c I hv (ks:=ks) nok hk (p:=p) (ty:=t) O h2 a lk hl;rw[hG,<-show(AV.agg (bU i).cells)=bU i from rfl]at J;unfold aY at S;simp only[go_sem,S,V,ag];rcases q8 with⟨v,rfl,X,D,C,w,Y,u,y,ur⟩|rfl
    ·have R:=ur;rcases ur with⟨j,z,rfl,_⟩|⟨r,z,x,l,rfl,_⟩
     ·simp only[go_sem,J];exact fin _ _ X D C j (.eI z) _ false k_ k_ k_ ((HK.m m).trans o) w Y u y (eQ _ _) R
     simp only[go_sem,J];exact fin _ _ X D C r (.eI z) _ true k_ k_ k_ ((HK.m m).trans o) w Y u y (eQ _ _) R
    simp only[go_sem,J];exact cP ((HK.m m).trans o)
   |fn n j d f p O h2 h3=>
    have a:=L n d rfl O;simp only at a;rw[N_ o_,N_ o_,P_ trivial,G_,h3]at a;have⟨_,_,J,o,q8⟩:=c1106 eg wq ci s2 g c I hv (ks:=ks) nok hk (p:=p) (ty:=f.type) O h3 a lk hl;rw[hG,<-show(AV.agg (bU i).cells)=bU i from rfl]at J;unfold aY at S;simp only[go_sem,S,V,ag];rcases q8 with⟨v,rfl,X,D,C,w,Y,u,y,ur⟩|rfl
    ·have R:=ur;rcases ur with⟨j,z,rfl,_⟩|⟨r,z,x,l,rfl,_⟩
     ·simp only[go_sem,J];exact fin _ _ X D C j (.eI z) _ false k_ k_ k_ ((HK.m m).trans o) w Y u y (eQ _ _) R
     simp only[go_sem,J];exact fin _ _ X D C r (.eI z) _ true k_ k_ k_ ((HK.m m).trans o) w Y u y (eQ _ _) R
    simp only[go_sem,J];exact cP ((HK.m m).trans o)
  have dp:=D_ hp;simp only[go_sem,U,dp,F,zq];exact fin _ _ M gN gF 0 .nl (.ls []) false k_ k_ k_ (HK.m m) s2 g (Le.refl M) (Mx.refl c I) (dL _) (N M (by unfold oD;rw[P];exact N_ hp))
end
theorem KV {k:Nat}{a:List T}(s:MK.step C (Wn C j) h a=some (.next c b))(q:wf C k c b=some u):∃n,wf C n h a=some u:=by
 refine⟨max j k+1,?_⟩;unfold wf;rw[BM (W':=λt=>wf C (max j k) t []) (λt u e=>xI (Nat.le_max_left j k) e) h a _ s];exact xI (Nat.le_max_right j k) q
theorem tc {a:List T}(s:MK.step C (Wn C j) h b=some (.stuck c a)):∃n,wf C n h b=some (bA c a):=by
 refine⟨j+1,?_⟩;unfold wf;rw[show(λt=>wf C j t [])=Wn C j from rfl,s]
def zR: ∀(b:Nat) (t:T) (c:List T) (n:Nat) (u:T),aO t<=b->wf C n (aT t).1 ((aT t).2++c)=some u->∃m,wf C m t c=some u:=by
 intro b;induction b with
 |zero=>intro t _ _ _ h;have:=bI t;omega
 |succ b g=>
  intro t c n u e q;by_cases d:Hd t
  ·rw[mw d]at q;exact⟨n,q⟩
  have⟨_,_,_,_,j⟩:=t;unfold Hd at d;simp only[T.D,T.K,Classical.not_imp,Decidable.not_not]at d;obtain⟨rfl,d⟩:=d
  match j,d with
  |[f,a],_=>
   rw[iE]at q;simp only[V_,Q_,List.nil_append]at q;simp only[aO,ba]at e;have⟨m,hm⟩:=g f (a::c) n u o_ q;exact⟨m+1,by unfold wf;exact hm⟩
def Xk (h:Wh C t u):Wh C u u:=by
 have⟨_,h⟩:=h;obtain⟨_,_,rfl,_,s⟩:=Gj _ _ _ _ h;exact sk_wf s
def step5 (C:MK.Cx)(W:T->Option T)(i:Int)(nm:ByteArray)(ls:List LL)(a b:T)(c:List T):MK.step C W (.mk 5 i nm ls [a,b]) c=match c with
  |[]=>some (.stuck (.mk 5 i nm ls [a,b]) c)
  |x::l=>some (.next (fM [x] b 0) l):=rfl
def ac9 (C:MK.Cx)(W:T->Option T)(i:Int)(nm:ByteArray)(ls:List LL)(a v b:T)(c:List T):MK.step C W (.mk 11 i nm ls [a,v,b]) c=some (.next (fM [v] b 0) c):=rfl
def aar {k:Int}(hk:k=9\/k=10)(C:MK.Cx)(W:T->Option T)(i:Int)(nm:ByteArray)(ls:List LL)(a:T)(b:List T):MK.step C W (.mk k i nm ls [a]) b=match W a with
  |none=>none
  |some p=>match tI k p with
   |some q=>some (.next q b)
   |none=>some (.stuck (iL k p) b):=by
 rcases hk with rfl|rfl<;>rfl
def aas (C:MK.Cx)(W:T->Option T)(h:T)(a:List T)(e:h.D≠3)(g:h.D≠4)(d:h.D≠5)(f:h.D≠9)(b:h.D≠10)(c:h.D≠11):MK.step C W h a=some (.stuck h a):=by
 have⟨_,_,_,_,_⟩:=h;simp only[T.D]at e g d f b c;unfold MK.step;simp only[T.D,T.K];split<;>first|rfl|exact absurd rfl g|exact absurd rfl d|exact absurd rfl c|exact absurd rfl f|exact absurd rfl b|exact absurd rfl e
def agN (lk:Lk ts l b)(h:l.length=1):∃a t,l=[a]/\b=[t]/\At ts a t:=by
 match l,b,lk,h with
 |[a],[t],lk,_=>exact⟨a,t,rfl,rfl,lk.1⟩
def agM {c:List T}(lk:Lk ts l c)(h:l.length=2):∃a b t u,l=[a,b]/\c=[t,u]/\At ts a t/\At ts b u:=by
 match l,c,lk,h with
 |[a,b],[t,u],lk,_=>exact⟨a,b,t,u,rfl,rfl,lk.1,lk.2.1⟩
def acM {d:List T}(lk:Lk ts l d)(h:l.length=3):∃a b c t u w,l=[a,b,c]/\d=[t,u,w]/\At ts a t/\At ts b u/\At ts c w:=by
 match l,d,lk,h with
 |[a,b,c],[t,u,w],lk,_=>exact⟨a,b,c,t,u,w,rfl,rfl,lk.1,lk.2.1,lk.2.2.1⟩
def PG (a b:List Int)(h:AH):cw (.clip [.eI a,.eI b]) h=(.ls ([a,b].map encZ),h):=by
 rw[bQ (by simp[AV.free,AV.frees,bY mA])];simp[AV.norm,AV.norms,encZ,bB ik]
def mC (a:Int)(h:AH):cw (.clip [.I a]) h=(.ls ([a].map AG.bh),h):=by
 rw[bQ (by simp[AV.free,AV.frees])];simp[AV.norm,AV.norms,AG.bh]
section
variable {K:aN}{A:Ma}{B B1:Nat}{E:AV}{env:List DV}{M:Ms}{gN gF:Nat}{h:AH}{C:MK.Cx}{inst:T->List LL->Option T}
def St.putW (s:St A B B1 E M gN gF h)(w:List (Int×Int)):St A B B1 E {M with w:=w} gN gF (h.set A.kW (.map (mpg AG.bh AG.bh w))):=by
 have⟨_,_,_,d,_,_,_,i,_,_,b,_,a,_,c⟩:=s.ok.ne;exact⟨s.ok,by rw[aA d];exact s.gA,by rw[aA i];exact s.gI,by rw[aA b];exact s.gN,by rw[aA a];exact s.gF,aF _ _ _,by rw[aA c.symm];exact s.gM,by rw[aE];exact s.b1⟩
def St.putN (s:St A B B1 E M gN gF h)(w:List (Int×Int)):St A B B1 E {M with n:=w} gN gF (h.set A.kM (.map (mpg AG.bh AG.bh w))):=by
 have⟨_,_,_,_,i,_,_,_,g,_,_,b,_,a,c⟩:=s.ok.ne;exact⟨s.ok,by rw[aA i];exact s.gA,by rw[aA g];exact s.gI,by rw[aA b];exact s.gN,by rw[aA a];exact s.gF,by rw[aA c];exact s.gW,aF _ _ _,by rw[aE];exact s.b1⟩
def Wg.same {b:Ms}(g:Wg M)(c:b.ns=M.ns)(a:b.ts=M.ts)(d:b.fr=M.fr):Wg b:=
 ⟨by rw[c,a];exact g.len,by rw[c,d];exact g.lenF,by rw[c];exact g.most,by rw[c,a];exact g.node,by rw[a,d];exact g.free,by rw[a];exact g.tok,by rw[a];exact g.nd⟩
def Le.same (c:a.ns=M.ns)(b:a.ts=M.ts):Le M a:=⟨⟨[],by rw[c];simp⟩,⟨[],by rw[b];simp⟩⟩
def Xe (A:Ma)(B B1:Nat)(E:AV)(C:MK.Cx)(M:Ms)(x:Int)(t:T)(f:AH)(j:Nat)(g:AF)(h:AH):Prop:=∃tm b gN gF e d a c,j=(4000001-b.vis).toNat/\g=F_ 31 tm/\
 nth tm 0=.P A.a/\nth tm 1=.I x/\nth tm 7=.I d/\nth tm 8=.eI a/\Gs A B B1 E M f h b gN gF/\Mx C M b/\
 At b.ts d e/\Lk b.ts a c/\(a.length:Int)<=70000*(b.con+1)/\Hd e/\∀n u,wf C n e c=some u->Wh C t u
theorem c1031 [RunsM K][km:KM K][kg:KG K](eg:Eg env)(ci:Ci K A B B1 (.eD env) inst):
  ∀(n:Nat) (v0:Int),(4000001-v0).toNat<=n->Wq K A B B1 (.eD env) (Ce env inst) v0:=by
 intro n;induction n with
 |zero=>
  intro v0 hn M gN gF h x t s g c cu hv hx;have:=c.v1;omega
 |succ n ih=>
 intro v0 hn M gN gF h x t s g c cu hv hx;refine iW afS ?_;have b1:=s.b1;have ra:=s.ok.rng;have gA:=s.gA;have eo:=λz=>ki (kf:=AG.bh) (t:=1) AG.bh dw s.gW x z true;unfold kj at gA;have dy:∀z,iq h 1 z true (.map A.kW) (.I x)=_:=eo;have a5:∀(l:List Int) (i:Nat) (y:Int),l[i]?=some y->bW (.eI l) 1 (.I (i:Int))=some (.vp (.I y)):=λl i y e=>aR (f:=AG.bh) (sz:=1) (λ_=>rfl) e .i64;have fin:∀(tm:Tm) (H:AH) (M':Ms) (d5 dn:Nat) (ag:Int) (f:List Int) (ht:T) (m:List T),nth tm 0=.P A.a->nth tm 1=.I x->nth tm 7=.I ag->nth tm 8=.eI f->Gs A B B1 (.eD env) M h H M' d5 dn->Mx (Ce env inst) M M'->
   At M'.ts ag ht->Lk M'.ts f m->(f.length:Int)<=70000*(M'.con+1)->Wh (Ce env inst) t (bA ht m)->
   R (cS K) 1000000000000 [.code rK] (XQ (cS K) JK (mD (PM B B1 h λv h'=>Gq A B B1 (.eD env) M h' λM'=>Mx (Ce env inst) M M'/\∃r u,v=.I r/\At M'.ts r u/\Wh (Ce env inst) t u))) .normal (F_ 31 tm) H:=by
  rintro tm H M' d5 dn ag f ht m t0 t1 t7 t8 ⟨st,g',le,dt⟩ mx ah lk hl wh;have cc:=mx.ct.c1;have⟨_,H2,e2,bw,q2⟩:=abX st g' ag ht ah f m lk o_;simp only[go_sem,rK,t0,t7,t8];rcases q2 with⟨v,rfl,M2,d1,d0,ac,g2,cr,em,r,rfl,ar⟩|rfl
  ·have E:=mx.trans (em.mx mx.ct mx.mem cr);have cx:=le.trans cr;have d6:=ac.gA;have cz:=lS (kf:=AG.bh) (t:=1) AG.bh dw ac.gW x r;have s3:=ac.putW (stg M2.w x r);have bx:=s3.gA;have dd:=lS (kf:=AG.bh) (t:=1) AG.bh dw s3.gW r r;have s4:=s3.putW (stg (stg M2.w x r) r r);have cz:iR H2 1 (.map A.kW) (.I x) (.I r)=_:=cz;have dd:iR (H2.set A.kW (.map (mpg AG.bh AG.bh (stg M2.w x r)))) 1 (.map A.kW) (.I r) (.I r)=_:=dd;unfold kj at d6 bx;simp only[go_sem,e2,t0,t1,d6,cz,bx,dd];refine iX (.inr rfl) k_ (((dt.trans bw).set _ (.inr ra.2.2.2.2.1)).set _ (.inr ra.2.2.2.2.1)) ⟨_,d1,d0,s4,g2.same rfl rfl rfl,cx.trans (Le.same rfl rfl),⟨⟨E.ct.v0,E.ct.v1,E.ct.c0,E.ct.c1⟩,⟨λe he=>?_,λe he=>E.mem.n e he⟩,E.vis,E.con⟩,r,_,rfl,ar,wh⟩;rcases stg_mem he with rfl|he
   ·exact⟨_,_,ar,ar,Xk wh⟩
   rcases stg_mem he with rfl|he
   ·exact⟨t,_,cx.at hx,ar,wh⟩
   exact E.mem.w e he
  simp only[go_sem,e2];exact cP (dt.trans bw)
 simp only[go_sem,gA,dy];cases hw:lkg M.w x with
 |some o=>
  have⟨_,u,a1,a2,wh⟩:=cu.w _ (qH hw);have:=hx.det a1;subst this;simp only[go_sem,AG.bh];exact iX (.inr rfl) k_ (HM.refl h) ⟨M,gN,gF,s,g,Le.refl M,Mx.refl c cu,o,u,rfl,a2,wh⟩
 |none=>
  obtain⟨v,H1,e1,⟨r,f,rfl,ah,lk,ea⟩,k1⟩:=JW s g x t hx;simp only[go_sem,e1];have c0:=c.c0;have cv:=c.v0;refine bo (Xe A B B1 (.eD env) (Ce env inst) M x t h) (4000001-M.vis).toNat o_ ⟨_,M,gN,gF,(aT t).1,r,f,(aT t).2,rfl,rfl,k_,k_,k_,k_,⟨s.hk k1,g,Le.refl M,HK.m k1⟩,Mx.refl c cu,ah,lk,o_,uW t,λn u q=>zR _ t [] n u (e_ _) (by rw[A_];exact q)⟩ ?_;rintro j fr H ⟨tm,M2,d1,d0,ht,ag,f,m,rfl,rfl,t0,t1,t7,t8,⟨st,g2,cr,bw⟩,E,ah,lk,ea,eb,back⟩;have cc:=E.ct.c1;have fc:=E.vis;have fd:=E.ct.c0;have J:∀(tm:Tm) (H4:AH) (G:Ms) (U P:Nat) (ag:Int) (ao:List Int) (ht:T) (cg:List T),nth tm 0=.P A.a->nth tm 1=.I x->nth tm 7=.I ag->nth tm 8=.eI ao->nth tm 11=.bool false->Gs A B B1 (.eD env) M h H4 G U P->Mx (Ce env inst) M G->At G.ts ag ht->Lk G.ts ao cg->(ao.length:Int)<=70000*(G.con+1)->Wh (Ce env inst) t (bA ht cg)->
    R (cS K) 1000000000000 [.code vM,.out 1] (LQ (cS K) 1000000000000 (Xe A B B1 (.eD env) (Ce env inst) M x t h) (4000001-M2.vis).toNat [.out 0,.code rK] (XQ (cS K) JK (mD (PM B B1 h λv h'=>Gq A B B1 (.eD env) M h' λM'=>Mx (Ce env inst) M M'/\∃r u,v=.I r/\At M'.ts r u/\Wh (Ce env inst) t u)))) .normal (F_ 31 tm) H4:=by
   intro tm H4 G U P ag ao ht cg t0 t1 t7 t8 di gs mx a l hl wh;simp only[go_sem,vM,di];exact fin _ _ G U P ag ao ht cg (q_ t0) (q_ t1) (q_ t7) (q_ t8) gs mx a l hl wh
  have aq:∀(tm:Tm) (H4:AH) (G:Ms) (U P:Nat) (r:Int) (z:List Int) (y:T) (l:List T),nth tm 0=.P A.a->nth tm 1=.I x->nth tm 9=.I r->nth tm 10=.eI z->nth tm 11=.bool true->Gs A B B1 (.eD env) M h H4 G U P->Mx (Ce env inst) M G->M2.vis+1<=G.vis->M2.con<=G.con->At G.ts r y->Lk G.ts z l->(z.length:Int)<=70000*(M2.con+1)+400->(∃k,MK.step (Ce env inst) (Wn (Ce env inst) k) ht m=some (.next y l))->
    R (cS K) 1000000000000 [.code vM,.out 1] (LQ (cS K) 1000000000000 (Xe A B B1 (.eD env) (Ce env inst) M x t h) (4000001-M2.vis).toNat [.out 0,.code rK] (XQ (cS K) JK (mD (PM B B1 h λv h'=>Gq A B B1 (.eD env) M h' λM'=>Mx (Ce env inst) M M'/\∃r u,v=.I r/\At M'.ts r u/\Wh (Ce env inst) t u)))) .normal (F_ 31 tm) H4:=by
   rintro tm H4 G U P r z y l t0 t1 t9 ef di ⟨Q,g4,ai,V⟩ w d2 d4 ar al hz ⟨sk,hs⟩;have ff:=w.ct.c1;have e9:=w.ct.v1;have⟨_,H5,e5,af,q5⟩:=c1065 Q w.ct.c0 w.ct.c1;simp only[go_sem,vM,di,t0];rcases q5 with⟨v,rfl,rfl,ew,an⟩|rfl
   ·have⟨M5,I⟩:∃M5:Ms,M5={G with con:=G.con+1}:=⟨_,rfl⟩;rw[<-I]at an;have g5:Wg M5:=g4.same (by rw[I]) (by rw[I]) (by rw[I]);have b9:Le G M5:=Le.same (by rw[I]) (by rw[I]);have b4:M5.con=G.con+1:=by rw[I]
    have az:Mx (Ce env inst) M M5:=w.trans ⟨⟨by rw[I];exact w.ct.v0,by rw[I];exact w.ct.v1,by rw[b4];have:=w.ct.c0;omega,by rw[b4];omega⟩,w.mem.up b9 (by rw[I]) (by rw[I]),by rw[I];exact Int.le_refl _,by rw[b4];omega⟩;have es:M5.vis=G.vis:=by rw[I]
    clear I;obtain⟨_,H6,e6,⟨r6,bm,rfl,ee,ec,_⟩,k6⟩:=JW an g5 r y (b9.at ar);obtain⟨_,_,e7,rfl,k7⟩:=abY [bm,z] (by simp;omega) (by simp) H6;rw[<-dJ (f:=66) (c:=[]) (ae (PG bm z H6) (aH _)) (ae (KH _ _) (aH _))]at e7;simp only[go_sem,t0,t9,ef,e5,e6,e7];refine⟨(4000001-M5.vis).toNat,o_,_,M5,U,P,(aT y).1,r6,bm++z,(aT y).2++l,rfl,rfl,q_ t0,q_ t1,k_,by simp only[go_sem,List.flatten_cons,List.flatten_nil],⟨(an.hk k6).hk k7,g5,ai.trans b9,((V.trans af).trans (HK.m k6)).trans (HK.m k7)⟩,az,ee,ec.append (b9.lk al),by rw[H_];push_cast;omega,uW y,λn u q=>?_⟩;have⟨a,ha⟩:=zR _ y l n u (e_ _) q;have⟨b,hb⟩:=KV hs ha;exact back b u hb
   simp only[go_sem,e5];exact cP (V.trans af)
  have⟨_,H1,e1,dz,q1⟩:=Bz (h:=H) st g2 E.ct;rcases q1 with⟨v,rfl,rfl,M3,dl,c9,cf,g3,cn,c8,ek⟩|rfl
  ·have v3:M3.vis=M2.vis+1:=by rw[c8]
   have c3:M3.con=M2.con:=by rw[c8]
   have D:=E.trans (ek.mx E.ct E.mem cn);have N:=cr.trans cn;have dx:=bw.trans dz;have ce:=cn.at ah;have Z:=cn.lk lk;clear c8;obtain⟨aw,rfl,_⟩:=ah.nat;obtain⟨p,ks,hn,rfl,ch,_,_,_⟩:=g3.at_node ce;have hn:M3.ns[aw]?=some p:=by simpa using hn
   have hj:=(E_.1 hn).1;have nok:=g3.nok (m_ hn);have cl:=cf.cell hn;have ad:=cf.addr hj;have bx:=cf.gA;have l5:=cl.l5;unfold kj at bx;unfold bU at l5;have ey:=dx.z;simp only[go_sem,t0,e1,t7,t8,bx,ad,l5];have⟨H2,dp,k2,_,L⟩:=ns H1 (.box zT) (.box [.I p.D,.I p.X,.str p.N,.eL p.L,.eI p.K]);rw[<-dp];clear dp;have ac:=cf.hk k2;have C:=dx.trans (HK.m k2);refine aU (λh5=>?_) (λh5=>?_)
   ·obtain⟨ca,cb,ta,tb,a9,rfl,aa,ab⟩:=agM ch (by have q:=nok.nd.K;rw[h5]at q;exact Int.ofNat_inj.1 (q.trans rfl));have bl:ndT p [ta,tb]=.mk 5 p.X p.N p.L [ta,tb]:=by unfold ndT;rw[h5]
    have F:=λW=>step5 (Ce env inst) W p.X p.N p.L ta tb m;rw[<-bl]at F;by_cases hz:f=[]
    ·have cq:decide ((f.length:Int) > 0)=false:=D_ (by rw[hz];simp);simp only[go_sem,t8,cq];have ed:m=[]:=by
      have ax:=Z;rw[hz]at ax;cases m with
      |cons _ _=>exact ax.elim
      |nil=>rfl
     subst ed;have⟨b,hb⟩:=tc (j:=0) (F _);exact J _ H2 M3 dl c9 (aw:Int) f _ [] (q_ t0) (q_ t1) (q_ t7) (q_ t8) k_ ⟨ac,g3,N,C⟩ D ce Z o_ (back b _ hb)
    have⟨i0,_,hc⟩:∃a l,f=a::l:=by
     cases f with
     |nil=>exact absurd rfl hz
     |cons a l=>exact⟨a,l,rfl⟩
    have ax:=Z;rw[hc]at ax;cases m with
    |nil=>exact ax.elim
    |cons a0 al=>
     have⟨el,ax⟩:=ax;have et:0<f.length:=by rw[hc];simp
     have cq:decide ((f.length:Int) > 0)=true:=t_;have ia:bW (.eI f) 1 (.I 0)=some (.vp (.I i0)):=a5 f 0 i0 (by rw[hc];rfl);have ib:bW (.eI p.K) 1 (.I 1)=some (.vp (.I cb)):=a5 p.K 1 cb (by rw[a9];rfl);have dv:=λ(tm:Tm)=>sj f (n:=1) (tm:=tm) (x:=.c (.I 1)) rfl o_;have⟨o8,H8,e8,am,q8⟩:=WT ac g3 D.ct ab (ids:=[i0]) (vs:=[a0]) ⟨el,trivial⟩ (by simp);rw[<-dJ (f:=62) (c:=[]) (ae (bS _ _ _ _) (ae (aL _ _ _) (ae (mC i0 H2) (aH _)))) (ae (bS _ _ _ _) (ae (aL _ _ _) (ae (eQ _ _) (aH _))))]at e8;rcases q8 with⟨v,rfl,M8,bd,bb,a7,g8,O,ay,r8,rfl,a8⟩|rfl
     ·simp only[go_sem,cq,L,t0,t8,ia,ib,e8,dv];exact aq _ H8 M8 bd bb r8 (f.drop 1) _ al (q_ t0) (q_ t1) k_ k_ k_ ⟨a7,g8,N.trans O,C.trans am⟩ (D.trans (ay.mx D.ct D.mem O)) (by have:=ay.vis;omega) (by rw[ay.con,c3];exact Int.le_refl _) a8 (O.lk (by rw[hc];exact ax)) (by rw[List.length_drop];omega) ⟨0,F _⟩
     simp only[go_sem,cq,L,t0,t8,ia,ib,e8,dv];exact cP (C.trans am)
   simp only[go_sem];refine aU (λco=>?_) (λco=>?_)
   ·obtain⟨_,cv,cb,ta,tv,tb,a9,rfl,_,av,ab⟩:=acM ch (by have q:=nok.nd.K;rw[co]at q;exact Int.ofNat_inj.1 (q.trans rfl));have bl:ndT p [ta,tv,tb]=.mk 11 p.X p.N p.L [ta,tv,tb]:=by unfold ndT;rw[co]
    have F:=λW=>ac9 (Ce env inst) W p.X p.N p.L ta tv tb m;rw[<-bl]at F;have ia:bW (.eI p.K) 1 (.I 1)=some (.vp (.I cv)):=a5 p.K 1 cv (by rw[a9];rfl);have ib:bW (.eI p.K) 1 (.I 2)=some (.vp (.I cb)):=a5 p.K 2 cb (by rw[a9];rfl);have⟨o8,H8,e8,am,q8⟩:=WT ac g3 D.ct ab (ids:=[cv]) (vs:=[tv]) ⟨av,trivial⟩ (by simp);rw[<-dJ (f:=62) (c:=[]) (ae (bS _ _ _ _) (ae (aL _ _ _) (ae (mC cv H2) (aH _)))) (ae (bS _ _ _ _) (ae (aL _ _ _) (ae (eQ _ _) (aH _))))]at e8;rcases q8 with⟨v,rfl,M8,bd,bb,a7,g8,O,ay,r8,rfl,a8⟩|rfl
    ·simp only[go_sem,L,t0,ia,ib,e8];exact aq _ H8 M8 bd bb r8 f _ m (q_ t0) (q_ t1) k_ (q_ t8) k_ ⟨a7,g8,N.trans O,C.trans am⟩ (D.trans (ay.mx D.ct D.mem O)) (by have:=ay.vis;omega) (by rw[ay.con,c3];exact Int.le_refl _) a8 (O.lk Z) o_ ⟨0,F _⟩
    simp only[go_sem,L,t0,ia,ib,e8];exact cP (C.trans am)
   by_cases S:p.D=9\/p.D=10
   ·obtain⟨ck,tk,a9,rfl,ak⟩:=agN ch (by have q:=nok.nd.K;rcases S with e|e<;>rw[e]at q<;>exact Int.ofNat_inj.1 (q.trans rfl));have ia:bW (.eI p.K) 1 (.I 0)=some (.vp (.I ck)):=a5 p.K 0 ck (by rw[a9];rfl);have bl:ndT p [tk]=.mk p.D p.X p.N p.L [tk]:=rfl;have F:=λW=>aar S (Ce env inst) W p.X p.N p.L tk m;rw[<-bl]at F;have⟨_,H4,e4,V,q4⟩:=ih (M2.vis+1) o_ M3 dl c9 H2 ck tk ac g3 D.ct D.mem o_ ak;rcases S with h9|dr
    ·rw[h9]at L F;have dK:=T_ h9;rcases q4 with⟨v,rfl,G,U,P,Q,g4,ai,w,r4,u4,rfl,a4,kk,de⟩|rfl
     ·obtain⟨rn,rfl,er⟩:=a4.nat;obtain⟨d,aj,Y,rfl,bq,_,br,_⟩:=g4.at_node a4;have Y:G.ns[rn]?=some d:=by simpa using Y
      have dm:=(E_.1 Y).1;have bi:=g4.nok (m_ Y);have dj:=Q.addr dm;have be:=Q.gA;have bk:=(Q.cell Y).l5;unfold kj at be;unfold bU at bk;have d7:=V.z;have d2:=w.vis;have d4:=w.con;have b8:=(V.kw _ o_ (.inr o_)).trans L;have⟨H5,bg,k5,_,dk⟩:=ns H4 (.box zT) (.box [.I d.D,.I d.X,.str d.N,.eL d.L,.eI d.K]);have X:=k5.up b8;have an:=Q.hk k5;have af:=(C.trans V).trans (HK.m k5);have ap:=N.trans ai;have az:=D.trans w;have au:Wn (Ce env inst) kk tk=some (ndT d aj):=de;simp only[go_sem,dK,L,t0,ia,e4,be,dj,bk];rw[<-bg];clear bg;refine aU (λh8=>?_) (λh8=>?_)
      ·obtain⟨c0,c1,c2,w0,w1,w2,bf,rfl,b0,b1,b2⟩:=acM bq (by have q:=bi.nd.K;rw[h8]at q;exact Int.ofNat_inj.1 (q.trans rfl));have ib:bW (.eI d.K) 1 (.I 1)=some (.vp (.I c1)):=a5 d.K 1 c1 (by rw[bf];rfl);have dg:IntKind.wrap .i64 (1+9)=10:=by decide
       have dc:IntKind.wrap .i64 (10-9)=1:=by decide
       simp only[go_sem,dk,X,dg,dc,ib];exact aq _ H5 G U P c1 f w1 m (q_ t0) (q_ t1) k_ (q_ t8) k_ ⟨an,g4,ap,af⟩ az o_ o_ b1 (ai.lk Z) o_ ⟨kk,by
        rw[F,au];have:tI 9 (ndT d [w0,w1,w2])=some w1:=by unfold tI;rw[P_ (show(ndT d [w0,w1,w2]).D=8 from h8)];rfl
        simp only[this]⟩
      have⟨o6,H6,e6,b3,q6⟩:=FM an g4 9 [(rn:Int)] [ndT d aj] ⟨a4,trivial⟩ ⟨⟨by decide,by decide,rfl,by decide,by decide,λ_ _=>rfl,by simp[bs],by decide,λ_=>rfl,⟨by decide,by decide,λ_ _=>rfl⟩,by simp⟩,br,trivial⟩;rw[<-dJ (f:=63) (c:=[]) (ae (bS _ _ _ _) (ae (aL _ _ _) (ae (mC (rn:Int) H5) (aH _)))) (ae (bS _ _ _ _) (ae (aL _ _ _) (ae (eQ _ _) (aH _))))]at e6;rcases q6 with⟨v,rfl,M6,df,c4,db,g6,a3,b5,r6,rfl,a6⟩|rfl
      ·simp only[go_sem,t0,X,e6];have bv:=az.trans (b5.mx w.ct w.mem a3);have ej:=bv.con;have c5:MK.step (Ce env inst) (Wn (Ce env inst) kk) (ndT p [tk]) m=some (.stuck (iL 9 (ndT d aj)) m):=by
        rw[F,au];have:tI 9 (ndT d aj)=none:=sy.2 h8;simp only[this]
       have⟨b,hb⟩:=tc c5;have d3:=(b5.v w.ct).con;exact J _ H6 M6 df c4 r6 f _ m (q_ t0) (q_ t1) k_ (q_ t8) k_ ⟨db,g6,ap.trans a3,af.trans b3⟩ bv a6 (a3.lk (ai.lk Z)) o_ (back b _ hb)
      simp only[go_sem,t0,X,e6];exact cP (af.trans b3)
     simp only[go_sem,dK,L,t0,ia,e4];exact cP (C.trans V)
    rw[dr]at L F;have d9:decide (p.D=9)=false:=d_;have dK:=T_ dr;rcases q4 with⟨v,rfl,G,U,P,Q,g4,ai,w,r4,u4,rfl,a4,kk,de⟩|rfl
    ·obtain⟨rn,rfl,_⟩:=a4.nat;obtain⟨d,aj,Y,rfl,bq,_,br,_⟩:=g4.at_node a4;have Y:G.ns[rn]?=some d:=by simpa using Y
     have dm:=(E_.1 Y).1;have bi:=g4.nok (m_ Y);have dj:=Q.addr dm;have be:=Q.gA;have bk:=(Q.cell Y).l5;unfold kj at be;unfold bU at bk;have d7:=V.z;have d2:=w.vis;have d4:=w.con;have b8:=(V.kw _ o_ (.inr o_)).trans L;have⟨H5,bg,k5,_,dk⟩:=ns H4 (.box zT) (.box [.I d.D,.I d.X,.str d.N,.eL d.L,.eI d.K]);have X:=k5.up b8;have an:=Q.hk k5;have af:=(C.trans V).trans (HK.m k5);have ap:=N.trans ai;have az:=D.trans w;have au:Wn (Ce env inst) kk tk=some (ndT d aj):=de;simp only[go_sem,d9,dK,L,t0,ia,e4,be,dj,bk];rw[<-bg];clear bg;refine aU (λh8=>?_) (λh8=>?_)
     ·obtain⟨_,_,c2,w0,w1,w2,bf,rfl,_,_,b2⟩:=acM bq (by have q:=bi.nd.K;rw[h8]at q;exact Int.ofNat_inj.1 (q.trans rfl));have ib:bW (.eI d.K) 1 (.I 2)=some (.vp (.I c2)):=a5 d.K 2 c2 (by rw[bf];rfl);have dg:IntKind.wrap .i64 (1+10)=11:=by decide
      have dc:IntKind.wrap .i64 (11-9)=2:=by decide
      simp only[go_sem,dk,X,dg,dc,ib];exact aq _ H5 G U P c2 f w2 m (q_ t0) (q_ t1) k_ (q_ t8) k_ ⟨an,g4,ap,af⟩ az o_ o_ b2 (ai.lk Z) o_ ⟨kk,by
       rw[F,au];have:tI 10 (ndT d [w0,w1,w2])=some w2:=by unfold tI;rw[P_ (show(ndT d [w0,w1,w2]).D=8 from h8)];rfl
       simp only[this]⟩
     have⟨_,H6,e6,b3,q6⟩:=FM an g4 10 [(rn:Int)] [ndT d aj] ⟨a4,trivial⟩ ⟨⟨by decide,by decide,rfl,by decide,by decide,λ_ _=>rfl,by simp[bs],by decide,λ_=>rfl,⟨by decide,by decide,λ_ _=>rfl⟩,by simp⟩,br,trivial⟩;rw[<-dJ (f:=63) (c:=[]) (ae (bS _ _ _ _) (ae (aL _ _ _) (ae (mC (rn:Int) H5) (aH _)))) (ae (bS _ _ _ _) (ae (aL _ _ _) (ae (eQ _ _) (aH _))))]at e6;rcases q6 with⟨v,rfl,M6,df,c4,db,g6,a3,b5,r6,rfl,a6⟩|rfl
     ·simp only[go_sem,t0,X,e6];have bv:=az.trans (b5.mx w.ct w.mem a3);have ej:=bv.con;have c5:MK.step (Ce env inst) (Wn (Ce env inst) kk) (ndT p [tk]) m=some (.stuck (iL 10 (ndT d aj)) m):=by
       rw[F,au];have:tI 10 (ndT d aj)=none:=sy.2 h8;simp only[this]
      have⟨b,hb⟩:=tc c5;have d3:=(b5.v w.ct).con;exact J _ H6 M6 df c4 r6 f _ m (q_ t0) (q_ t1) k_ (q_ t8) k_ ⟨db,g6,ap.trans a3,af.trans b3⟩ bv a6 (a3.lk (ai.lk Z)) o_ (back b _ hb)
     simp only[go_sem,t0,X,e6];exact cP (af.trans b3)
    simp only[go_sem,d9,dK,L,t0,ia,e4];exact cP (C.trans V)
   have d9:decide (p.D=9)=false:=D_ λe=>S (.inl e);have d8:decide (p.D=10)=false:=D_ λe=>S (.inr e);simp only[go_sem,d9,d8];refine aU (λh3=>?_) (λh3=>?_)
   ·have⟨_,H8,e8,am,q8⟩:=c1064 eg (v0:=M2.vis+1) (ih (M2.vis+1) o_) ci ac g3 D.ct D.mem o_ (ks:=ks) nok h3 Z o_;unfold bU at e8;have ld:=cE (sz:=5) L rfl;rcases q8 with⟨v,rfl,M8,bd,bb,a7,g8,O,cs,ur⟩|rfl
    ·have fi:=cs.vis;have eu:=cs.con;rcases ur with⟨j8,z,rfl,k8,hs⟩|⟨r8,z,y,l,rfl,⟨k8,hs⟩,a8,en,hz⟩
     ·simp only[go_sem,t0,t8,ld,e8];have⟨b,hb⟩:=tc hs;exact J _ H8 M8 bd bb (aw:Int) f _ m (q_ t0) (q_ t1) (q_ t7) (q_ t8) k_ ⟨a7,g8,N.trans O,C.trans am⟩ (D.trans cs) (O.at ce) (O.lk Z) o_ (back b _ hb)
     simp only[go_sem,t0,t8,ld,e8];rw[<-lk.len]at hz;exact aq _ H8 M8 bd bb r8 z y l (q_ t0) (q_ t1) k_ k_ k_ ⟨a7,g8,N.trans O,C.trans am⟩ (D.trans cs) o_ o_ a8 en o_ ⟨k8,hs⟩
    simp only[go_sem,t0,t8,ld,e8];exact cP (C.trans am)
   simp only[go_sem];have h4:p.D≠4:=by
    intro h4;have k4:=nok.nd.K;rw[h4]at k4;have k4:((p.K.length:Nat):Int)=2:=by simpa [cN] using k4
    exact eb h4 (by show ks.length=2;rw[<-ch.len];omega)
   have F:=aas (Ce env inst) (Wn (Ce env inst) 0) (ndT p ks) m h3 h4 h5 (λe=>S (.inl e)) (λe=>S (.inr e)) co;have⟨b,hb⟩:=tc F;exact J _ H2 M3 dl c9 (aw:Int) f _ m (q_ t0) (q_ t1) (q_ t7) (q_ t8) k_ ⟨ac,g3,N,C⟩ D ce Z o_ (back b _ hb)
  simp only[go_sem,t0,e1];exact cP (bw.trans dz)
end
