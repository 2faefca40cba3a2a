/- Lemmas for MachineOrders (no condition). -/
import Derived.Test.YtocdlbblemjabaaGreatDoorDe
set_option linter.defProp false
namespace Go.Proofs.YtocdlbblemjabaaGreatDoor
open Go.AG Go.AG.MK
variable {a b:Type}{h' h H:AH}{d:CT}{e:EV}{l:LL}{j i n N:Nat}{c:Option CT}{f g:T}{tm:Tm}{x:b}
structure Jg {β:Type}(f:β->AV)(sz:Nat)(X:Nat->Prop)(L:List (Nat×dF))(B:Nat)(h0 h:AH)(V:AV)(out:List β):Prop where
 hX:∀k,X k->k<h0.z
 hL:∀p∈L,h0.z<=p.1/\p.1<B
 cells:∀p∈L,h.get p.1=some p.2
 own:Own B sz true h V (out.map f)
 kw:HKp X h0 h
 nx:h0.z<=B/\B<=h.z
section
variable {β:Type}{f:β->AV}{sz:Nat}{X:Nat->Prop}{L:List (Nat×dF)}{B:Nat}{h0 h:AH}{V:AV}{out:List β}
theorem Jg.up (J:Jg f sz X L B h0 h V out)(k:HKp X h h'):Jg f sz X L B h0 h' V out:=by
 have nx:=J.nx;have hx:∀a,h0.z<=a->¬X a:=λa c q=>by have:=J.hX a q;omega
 exact⟨J.hX,J.hL,λp b=>(k.kw _ (by have:=J.hL p b;omega) (hx _ (J.hL p b).1)).trans (J.cells p b),bP J.own k.z (λa c q=>k.kw a q (hx a o_)),J.kw.trans k,⟨nx.1,C_ nx.2 k.z⟩⟩
theorem Jg.add (J:Jg f sz X L B h0 h V out)(x:β)(j:(f x).cells.length=sz/\(f x).isAgg=true/\(f x).lies=true:=by first|exact⟨rfl,rfl,rfl⟩|simp only[go_sem,and_self])(hn:out.length<=600000000000):
  ∃c h',(∀z b,z.length=sz->b<=100->cI h sz true z b V (.clip [f x])=some (c,h'))/\Jg f sz X L B h0 h' c (out++[x])/\AV.beq c c=true/\∀a,a<B->h'.get a=h.get a:=by
 have nx:=J.nx;have⟨c,h',m,i,l,d,_,_,_,g,_⟩:=eY (f x) J.own nx.2 j (by rw[L_];exact hn);exact⟨c,h',m,⟨J.hX,J.hL,λp e=>(d _ (J.hL p e).2).trans (J.cells p e),by rw[List.map_append];exact i,⟨C_ J.kw.z l,λk hk q=>(d k o_).trans (J.kw.kw k hk q)⟩,⟨nx.1,o_⟩⟩,by rw[g];exact gQ _,d⟩
theorem Jg.beq (J:Jg f sz X L B h0 h V out):AV.beq V V=true:=by
 obtain⟨_,⟨rfl,_⟩|⟨_,_,rfl,_⟩⟩:=J.own
 ·rfl
 exact gQ _
theorem Jg.len (J:Jg f sz X L B h0 h V out)(H:AH):lenOf V H 1=some out.length:=by
 obtain⟨_,⟨rfl,e⟩|⟨_,_,rfl,_⟩⟩:=J.own
 ·rw[List.map_eq_nil_iff]at e;subst e;rfl
 simp[zH]
theorem Jg.put (J:Jg f sz X L B h0 h V out)(o:dF)(c:h0.z<=j/\j<B)(hn:∀p∈L,p.1≠j):Jg f sz X L B h0 (h.set j o) V out:=
 ⟨J.hX,J.hL,λp b=>(aA (hn p b)).trans (J.cells p b),bP J.own (by rw[aE];exact e_ _) λa d _=>aA o_,J.kw.set o c.1,⟨J.nx.1,by rw[aE];exact J.nx.2⟩⟩
end
def rW {l:List a}{x:a}(h:l[i]?=some x):l.drop i=x::l.drop (i+1):=by
 obtain⟨hi,rfl⟩:=E_.1 h;exact List.drop_eq_getElem_cons hi
section
variable {K:aN}{h:AH}
theorem c202 [RunsM K](a b:LL)(la:a.V.length<=1000000)(lb:b.V.length<=1000000):Rt K (226) [cB a,cB b] h λv h'=>v=cB (gi a b)/\HK h h':=by
 refine aV cf202 ?_;have⟨H,q0,k0,n0,g0,g1,p⟩:=VD h (.box [.I a.c,.eV a.V]) (.box [.I b.c,.eV b.V]) (.box [.I 0,.nl]);let f:List (Nat×dF):=[(h.z,.box [.I a.c,.eV a.V]),(h.z+1,.box [.I b.c,.eV b.V]),(h.z+2,.box [.I 0,.nl])]
 have n1:¬h.z=h.z+3:=o_;have n2:¬h.z+1=h.z+3:=o_;have n3:¬h.z+2=h.z+3:=o_;have n4:¬h.z+3=h.z+2:=o_;have J0:Jg cQ 2 (λ_=>False) f (h.z+4) h ((H.new (.box [.I 0,.nl])).set (h.z+3) (.box [.I (max a.c b.c),.nl])) .nl []:=by
  refine⟨λ_ q=>q.elim,by simp[f],?_,cV _ _ _ _,(((k0.add _).set _ o_)).p _,by rw[aE,aB];omega⟩;simp only[f,X_,List.not_mem_nil,or_false,forall_eq_or_imp,forall_eq];refine⟨?_,?_,?_⟩<;>(rw[aA o_,aM o_];assumption)
 have aa:((H.new (.box [.I 0,.nl])).set (h.z+3) (.box [.I (max a.c b.c),.nl])).get (h.z+3)=some (.box [.I (max a.c b.c),.nl]):=aF _ _ _;have ej:∀c,c=cp a.V b.V->gi a b=⟨if 0<c.length/\max a.c b.c<=dW c then 0 else max a.c b.c,c⟩:=λc e=>by subst e;rfl
 have gz:(H.new (.box [.I 0,.nl])).get (h.z+3)=some (.box [.I 0,.nl]):=by rw[<-n0];exact aD _ _
 simp only[go_sem,aB,<-q0,g0,g1,n0,gz,max2];refine bo (λj fr Hc=>∃tm i k c V,j+i+k=a.V.length+b.V.length/\fr=F_ 226 tm/\nth tm 2=.P h.z/\nth tm 3=.P (h.z+1)/\nth tm 4=.P (h.z+2)/\nth tm 5=.P (h.z+3)/\nth tm 6=.I (i:Int)/\nth tm 7=.I (k:Int)/\nth tm 8=.I (dW c)/\
  Jg cQ 2 (λ_=>False) f (h.z+4) h Hc V c/\Hc.get (h.z+3)=some (.box [.I (max a.c b.c),V])/\i<=a.V.length/\k<=b.V.length/\c++cp (a.V.drop i) (b.V.drop k)=cp a.V b.V/\c.length<=i+k) (a.V.length+b.V.length) o_
  ⟨_,0,0,[],.nl,o_,rfl,k_,k_,k_,k_,y_,y_,y_,J0,aa,o_,o_,by rw[List.nil_append,List.drop_zero,List.drop_zero],by simp⟩ ?_
 clear gz J0 aa q0 k0 n0 g0 g1 p H;rintro j fr H ⟨tm,i,k,c,V,hj,rfl,l,g,o,F,t,w,E,J,g5,ag,W,rest,af⟩;have nx:=J.nx;have p:=J.cells (h.z,.box [.I a.c,.eV a.V]) (by simp[f]);have z:=J.cells (h.z+1,.box [.I b.c,.eV b.V]) (by simp[f]);have g4:=J.cells (h.z+2,.box [.I 0,.nl]) (by simp[f]);simp only at p z g4;have X:¬h.z=H.z:=o_;have Z:¬h.z+1=H.z:=o_;have m3:¬h.z+3=H.z:=o_;have N:=aP i o_;have P:=aP k o_;have fin:∀(x:LV) (I G:Nat) d,I<=a.V.length->G<=b.V.length->i+k<I+G->(c++[x])++cp (a.V.drop I) (b.V.drop G)=cp a.V b.V->
   nth d 2=.P h.z->nth d 3=.P (h.z+1)->nth d 4=.P (h.z+2)->nth d 5=.P (h.z+3)->nth d 6=.I (I:Int)->nth d 7=.I (G:Int)->nth d 8=.I (dW c)->nth d 9=.P H.z->
   ∀m,HK H m->m.get H.z=some (.box [.I x.X,.I x.P])->
   R_ K [.code Km,.out 1] (LQ (cS K) 1000000000000 (λj fr Hc=>∃tm i k c V,j+i+k=a.V.length+b.V.length/\fr=F_ 226 tm/\nth tm 2=.P h.z/\nth tm 3=.P (h.z+1)/\nth tm 4=.P (h.z+2)/\nth tm 5=.P (h.z+3)/\nth tm 6=.I (i:Int)/\nth tm 7=.I (k:Int)/\nth tm 8=.I (dW c)/\
  Jg cQ 2 (λ_=>False) f (h.z+4) h Hc V c/\Hc.get (h.z+3)=some (.box [.I (max a.c b.c),V])/\i<=a.V.length/\k<=b.V.length/\c++cp (a.V.drop i) (b.V.drop k)=cp a.V b.V/\c.length<=i+k) j [.out 0,.code Bq] (Fin ZZ λv h'=>v=cB (gi a b)/\HK h h')) .normal (F_ 226 d) m:=by
  intro x I G d e1 e2 e3 e4 u2 u3 u4 u5 u6 u7 u8 u9 m kk w2;have f5:=kk.up g5;have⟨V',H2,c1,J2,bq,c4⟩:=(J.up (kk.p _)).add x (hn:=by omega);have c1:cI m 2 true [.I 0,.I 0] 16 V (.clip [.agg [.I x.X,.I x.P]])=some (V',H2):=c1 _ _ rfl (by decide);have ad:=(c4 _ o_).trans f5;have⟨_,r,s⟩:=jD J2.own;simp only[go_sem,Km,u8,u9,w2,max2,u5,f5,c1,ad,r,s];exact⟨a.V.length+b.V.length-I-G,o_,_,I,G,c++[x],V',o_,rfl,by simp only[go_sem,u2],by simp only[go_sem,u3],q_ u4,q_ u5,q_ u6,q_ u7,q_ IL,J2.put _ o_ (by simp[f]),(by first|exact aF _ _ _|rfl),e1,e2,e4,by simp;omega⟩
 by_cases hi:i<a.V.length
 ·have C:decide ((i:Int)<(a.V.length:Int))=true:=t_;have⟨x,hx⟩:∃x,a.V[i]?=some x:=⟨_,a_ hi⟩;have U:=aR gG hx .i64;have ab:cQ x=.agg [.I x.X,.I x.P]:=rfl;rw[ab]at U;have O:=rW hx;by_cases hk:k<b.V.length
  ·have⟨y,Y⟩:∃y,b.V[k]?=some y:=⟨_,a_ hk⟩;have T:=aR gG Y .i64;have Q:cQ y=.agg [.I y.X,.I y.P]:=rfl;rw[Q]at T;have B:=rW Y;have L:decide ((k:Int)=(b.V.length:Int))=false:=d_;by_cases n:x.X<y.X
   ·have u:=T_ n;simp only[go_sem,t,w,l,g,p,z,C,L,U,T,X,Z,u,N];refine fin x (i+1) k _ o_ W o_ ?_ (q_ l) (q_ g) (q_ o) (q_ F) k_ (q_ w) (q_ E) k_ _ (by repeat (first|exact HK.new _ _|refine HK.set ?_ _ (e_ _))) (aF _ _ _);rw[<-rest,O,B,cp,P_ n,V_];rfl
   have u:=D_ n;have d4:decide ((i:Int)=(a.V.length:Int))=false:=d_;by_cases D:y.X<x.X
   ·have d5:=T_ D;simp only[go_sem,t,w,l,g,p,z,C,L,d4,d5,U,T,X,Z,u,P];refine fin y i (k+1) _ o_ o_ o_ ?_ (q_ l) (q_ g) (q_ o) (q_ F) (q_ t) k_ (q_ E) k_ _ (by repeat (first|exact HK.new _ _|refine HK.set ?_ _ (e_ _))) (aF _ _ _);rw[<-rest,O,B,cp,N_ n,P_ D,V_];rfl
   have d5:=D_ D;simp only[go_sem,t,w,l,g,p,z,C,L,d4,d5,U,T,X,Z,u,N,P,max2];refine fin ⟨x.X,max x.P y.P⟩ (i+1) (k+1) _ o_ o_ o_ ?_ (q_ l) (q_ g) (q_ o) (q_ F) k_ k_ (q_ E) k_ _ (by repeat (first|exact HK.new _ _|refine HK.set ?_ _ (e_ _))) (aF _ _ _);rw[<-rest,O,B,cp,N_ n,N_ D,V_];rfl
  have M:k=b.V.length:=o_;have L:decide ((k:Int)=(b.V.length:Int))=true:=t_;have B:b.V.drop k=[]:=by rw[M,List.drop_length]
  simp only[go_sem,t,w,l,g,p,z,C,L,U,X,Z,N];refine fin x (i+1) k _ o_ W o_ ?_ (q_ l) (q_ g) (q_ o) (q_ F) k_ (q_ w) (q_ E) k_ _ (by repeat (first|exact HK.new _ _|refine HK.set ?_ _ (e_ _))) (aF _ _ _);rw[<-rest,O,B,yN,yN,V_];rfl
 have ac:i=a.V.length:=o_;have C:decide ((i:Int)<(a.V.length:Int))=false:=d_;have O:a.V.drop i=[]:=by rw[ac,List.drop_length]
 by_cases hk:k<b.V.length
 ·have⟨y,Y⟩:∃y,b.V[k]?=some y:=⟨_,a_ hk⟩;have T:=aR gG Y .i64;have Q:cQ y=.agg [.I y.X,.I y.P]:=rfl;rw[Q]at T;have B:=rW Y;have L:decide ((k:Int)=(b.V.length:Int))=false:=d_;have u:decide ((k:Int)<(b.V.length:Int))=true:=t_;have d4:decide ((i:Int)=(a.V.length:Int))=true:=t_;simp only[go_sem,t,w,l,g,p,z,C,L,u,d4,T,X,Z,P];refine fin y i (k+1) _ o_ o_ o_ ?_ (q_ l) (q_ g) (q_ o) (q_ F) (q_ t) k_ (q_ E) k_ _ (by repeat (first|exact HK.new _ _|refine HK.set ?_ _ (e_ _))) (aF _ _ _);rw[<-rest,O,B,cp,cp,V_];rfl
 have M:k=b.V.length:=o_;have u:decide ((k:Int)<(b.V.length:Int))=false:=d_;have B:b.V.drop k=[]:=by rw[M,List.drop_length]
 rw[O,B,cp,A_]at rest;have S:=J.len;have⟨_,_,_⟩:=jD J.own;have kf:=J.kw.k;have cls:∀(tm:Tm) (c':Int) (m:AH),fH ZZ tm m=some [.agg [.I c',V]]->m.z=H.z->(∀k,k<h.z\/h.z+4<=k->m.get k=H.get k)->gi a b=⟨c',c⟩->Fin ZZ (λv h'=>v=cB (gi a b)/\HK h h') .ret (F_ 226 tm) m:=by
  intro tm c' m hr hn hg he;have⟨_,e3,n3,k3⟩:=AK (c:=c') (bP (h':=m) J.own o_ λk h1 _=>hg k (.inr h1));exact cG (.inr rfl) hr e3 ⟨by rw[he],⟨by rw[n3,hn];exact kf.z,λk hk=>(k3 k o_).trans ((hg k (.inl hk)).trans (kf.kw k hk))⟩⟩
 by_cases hz:0<c.length
 ·have dz:decide ((c.length:Int) > 0)=true:=t_;by_cases A:max a.c b.c<=dW c
  ·have dl:=T_ A;simp only[go_sem,t,w,l,g,E,p,z,C,u,Bq,F,g5,S,dz,dl,n3,o,g4];exact cls _ 0 _ (by simp only[go_sem,o]<;>rfl) (by simp only[aE]) (λk hk=>by rw[aA o_,aA o_]) (by rw[ej c rest,P_ ⟨hz,A⟩])
  have dl:=D_ A;simp only[go_sem,t,w,l,g,E,p,z,C,u,Bq,F,g5,S,dz,dl,o,g4];exact cls _ _ _ (by simp only[go_sem,o]<;>rfl) (by simp only[aE]) (λk hk=>aA o_) (by rw[ej c rest,N_ λq=>A q.2])
 have dz:decide ((c.length:Int) > 0)=false:=d_;simp only[go_sem,t,w,l,g,p,z,C,u,Bq,F,g5,S,dz,o,g4];exact cls _ _ _ (by simp only[go_sem,o]<;>rfl) (by simp only[aE]) (λk hk=>aA o_) (by rw[ej c rest,N_ λq=>hz q.1])
theorem c204 [RunsM K](f:VL l):Rt K (213) [cB l] h λv h'=>v=.I (gX l)/\HK h h':=by
 refine aV cf204 ?_;have y:=f.len;have⟨H,p,k,_,n⟩:∃H:AH,H=h.new (.box [.I l.c,.eV l.V])/\HK h H/\H.z=h.z+1/\H.get h.z=some (.box [.I l.c,.eV l.V]):=⟨_,rfl,HK.new _ _,aB _ _,aD _ _⟩;obtain⟨_,_,c,⟨_,rfl,r⟩,g⟩:=c21 (h:=H) l o_;obtain rfl:=r.2 f;have c:=c;have m:=g.up n;have i:cB l=.agg [.I l.c,.eV l.V]:=rfl;rw[i]at c ⊢;simp only[go_sem,<-i];rw[i];simp only[go_sem,<-p,c,m];by_cases t:l.V.length=0
 ·have d:decide ((l.V.length:Int)=0)=true:=t_;have e:gX l=0:=by unfold gX;rw[S_ o_]
  simp only[go_sem,d];exact cG (.inr rfl) (v:=.I 0) k_ (aL _ _ _) ⟨by rw[e],k.trans g⟩
 have d:decide ((l.V.length:Int)=0)=false:=d_;have a:l.V[l.V.length-1]?=some l.V[l.V.length-1]:=a_ o_;have q:IntKind.wrap .i64 ((l.V.length:Int)-1)=((l.V.length-1:Nat):Int):=by rw[aW _ o_ o_];omega
 have o:cQ l.V[l.V.length-1]=.agg [.I l.V[l.V.length-1].X,.I l.V[l.V.length-1].P]:=rfl;have⟨_,_,_,_⟩:=f.rng _ _ a;have j:=aW (l.V[l.V.length-1].X+1) o_ o_;have e:gX l=max 0 (l.V[l.V.length-1].X+1):=by unfold gX;rw[a]
 simp only[go_sem,d,m,q,a,o,j,max2];exact cG (.inr rfl) (v:=.I (max 0 (l.V[l.V.length-1].X+1))) k_ (aL _ _ _) ⟨by rw[e],k.trans g⟩
end
def PW {p:a->Bool}{l:List a}(h:∀i x,i<l.length->l[i]?=some x->p x=false):l.any p=false:=by
 rw[List.any_eq_false];intro x hx;have⟨i,hi⟩:=List.mem_iff_getElem?.1 hx;rw[h i x (E_.1 hi).1 hi];simp
def Re:LL->Int->AV:=λl e=>.tup [cB l,.I e]
section
variable {K:aN}{h:AH}
theorem c243 [RunsM K](P:VL l)(n:Int)(ah:0<=n)(ai:n<=100):Rt K (225) [cB l,.I n] h λv h'=>v=Re (gT l n).1 (gT l n).2/\HK h h':=by
 refine aV cf243 ?_;have hl:=P.len;have⟨H,q0,k0,_,g0,g1⟩:∃H,H=(h.new (.box [.I l.c,.eV l.V])).new (.box [.I 0,.nl])/\HK h H/\H.z=h.z+2/\H.get h.z=some (.box [.I l.c,.eV l.V])/\H.get (h.z+1)=some (.box [.I 0,.nl]):=by
  have J:=Jb.two (X:=λ_=>False) h (.box [.I l.c,.eV l.V]) (.box [.I 0,.nl]) (λ_ q=>q.elim);exact⟨_,rfl,J.kw.k,by simp only[aB],J.c0⟩
 obtain⟨_,H1,X,⟨_,rfl,hb⟩,Z⟩:=c21 (h:=H) l o_;obtain rfl:=hb.2 P;have X:=X;have l1:=Z.z;have aa:=Z.up g0;have ad:=Z.up g1;have c0:=P.c0;have Y:=P.c1;have d1:decide (n<0)=false:=d_;have d2:decide (n > 100)=false:=d_;have hw:=aW (l.c+n) o_ o_;let d:List (Nat×dF):=[(h.z,.box [.I l.c,.eV l.V]),(h.z+1,.box [.I 0,.nl])]
 have zr:∀(a:AH) (tm:Tm),HK h a->fH ZY tm a=some [.agg [.I 0,.nl],.I 15]->gT l n=(⟨0,[]⟩,15)->Fin ZY (λv h'=>v=Re (gT l n).1 (gT l n).2/\HK h h') .ret (F_ 225 tm) a:=λa tm r hr T=>
  cO (.inr rfl) hr (ae (xQ _) (ae (aL _ _ _) (aH _))) ⟨by rw[T];rfl,r⟩
 have⟨c,w⟩:∃c,c=H1.z:=⟨_,rfl⟩;have s:¬h.z=c:=o_;have M:¬h.z+1=c:=o_;have m3:¬c=h.z+1:=o_;have g:∀tm a,HK h a->a.z=c+1->a.get h.z=some (.box [.I l.c,.eV l.V])->a.get (h.z+1)=some (.box [.I 0,.nl])->a.get c=some (.box [.I (pcR l n),.nl])->
   nth tm 1=.I n->nth tm 2=.P h.z->nth tm 4=.P (h.z+1)->nth tm 5=.I 0->nth tm 6=.P c->
   R_ K [.code Kl] (Fin ZY λv h'=>v=Re (gT l n).1 (gT l n).2/\HK h h') .normal (F_ 225 tm) a:=by
  intro tm a r nx D B G L E p W A;simp only[go_sem,Kl,A,G];by_cases f:pcR l n > 100
  ·have db:=T_ f;have st:=aS (h:=a) (vs:=[.I 0,.nl]) (sz:=2) B rfl rfl;simp only[go_sem,db,p,st];exact zr _ _ (r.set _ o_) (by simp only[go_sem,p]<;>rfl) (by unfold gT;rw[T_ (show 100<pcR l n from f)];rfl)
  have db:=D_ f;have J0:Jg cQ 2 (λ_=>False) d (c+1) h a .nl []:=by
   refine⟨λ_ q=>q.elim,by simp[d];omega,?_,cV _ _ _ _,r.p _,o_⟩;simp only[d,X_,List.not_mem_nil,or_false,forall_eq_or_imp,forall_eq];exact⟨D,B⟩
  simp only[go_sem,db];refine bo (λj fr H=>∃tm m V,m+j=l.V.length/\fr=F_ 225 tm/\Jg cQ 2 (λ_=>False) d (c+1) h H V (upV (l.V.take m) n)/\H.get c=some (.box [.I (pcR l n),V])/\
   nth tm 1=.I n/\nth tm 2=.P h.z/\nth tm 4=.P (h.z+1)/\nth tm 5=.I 0/\nth tm 6=.P c/\nth tm 7=.I (m:Int)/\∀(i:Nat) x,i<m->l.V[i]?=some x->decide (100<x.P+n)=false) l.V.length o_
   ⟨_,0,.nl,z_ _,rfl,J0,G,q_ L,q_ E,q_ p,q_ W,q_ A,y_,λi x hi=>by omega⟩ ?_
  clear J0 r nx D B G L E p W A tm a;rintro j fr a ⟨tm,m,V,hm,rfl,J,G,L,E,p,W,A,t7,T⟩;have D:=J.cells (h.z,.box [.I l.c,.eV l.V]) (by simp[d]);have B:=J.cells (h.z+1,.box [.I 0,.nl]) (by simp[d]);simp only at D B;have r:=J.kw.k;have nx:=J.nx;simp only[go_sem,t7,E,D];refine aU (λO=>?_) (λaj=>?_)
  ·have O:m<l.V.length:=o_;have⟨x,hx⟩:∃x,l.V[m]?=some x:=⟨_,a_ O⟩;have ia:=aR gG hx .i64;have ac:cQ x=.agg [.I x.X,.I x.P]:=rfl;rw[ac]at ia;have ag:=aP m o_;have⟨_,_,_,_⟩:=P.rng m x hx;have Q:=aW (x.P+n) o_ o_;by_cases t:x.P+n > 100
   ·have dg:=T_ t;have st:=aS (h:=a) (vs:=[.I 0,.nl]) (sz:=2) B rfl rfl;simp only[go_sem,E,t7,L,D,ia,Q,dg,p,st];exact zr _ _ (r.set _ o_) (by simp only[go_sem,p]<;>rfl) (by unfold gT;rw[List.any_eq_true.2 ⟨x,m_ hx,T_ (show 100<x.P+n from t)⟩,Bool.or_true];rfl)
   have dg:=D_ t;have⟨V',H3,Y,J2,bq,c4⟩:=J.add ⟨x.X,x.P+n⟩ (hn:=by simp only[upV,L_,Y_];omega);have Y:cI a 2 true [.I 0,.I 0] 16 V (.clip [.agg [.I x.X,.I (x.P+n)]])=some (V',H3):=Y _ _ rfl (by decide);have f6:=(c4 c o_).trans G;have⟨_,_,_⟩:=jD J.own;have⟨_,z,I⟩:=jD J2.own;rw[show upV (l.V.take m) n++[⟨x.X,x.P+n⟩]=upV (l.V.take (m+1)) n by rw[iN hx];simp[upV]]at J2;simp only[go_sem,E,t7,L,A,D,G,ia,Q,dg,Y,f6,z,I,ag];refine⟨j-1,o_,_,m+1,V',o_,rfl,J2.put _ o_ (by simp[d];omega),(by first|exact aF _ _ _|rfl),q_ L,q_ E,q_ p,q_ W,q_ A,k_,λi y hi hy=>?_⟩;by_cases ab:i<m
   ·exact T i y ab hy
   obtain rfl:i=m:=o_;rw[hx]at hy;cases hy;exact D_ t
  obtain rfl:m=l.V.length:=o_;rw[K_]at J;have⟨_,_,_⟩:=jD J.own;have er:gT l n=(⟨pcR l n,upV l.V n⟩,0):=by unfold gT;rw[PW (λi x hi hx=>T i x hi hx),D_ (show ¬100<pcR l n from f)];rfl
  simp only[go_sem,A,G,p,B];have⟨_,e3,n3,k3⟩:=AK (c:=pcR l n) (bP (h':=a.set (h.z+1) (.box [.I (pcR l n),V])) J.own (by rw[aE];omega) λk h1 _=>aA o_);exact cO (.inr rfl) (a:=.agg [.I (pcR l n),V]) (by simp only[go_sem,p]<;>rfl) (ae e3 (ae (aL _ _ _) (aH _))) ⟨by rw[er];rfl,⟨by rw[n3,aE];exact r.z,λk hk=>(k3 k o_).trans ((aA o_).trans (r.kw k hk))⟩⟩
 have hL:cB l=.agg [.I l.c,.eV l.V]:=rfl;rw[hL]at X;have⟨N,qz,kz,nz,gz⟩:∃N:AH,N=H1.new (.box [.I 0,.nl])/\HK H1 N/\N.z=c+1/\N.get c=some (.box [.I 0,.nl]):=⟨_,rfl,HK.new _ _,by rw[aB,w],by rw[w];exact aD _ _⟩;have F:=kz.up aa;have z1:=kz.up ad;have C:=(k0.trans Z).trans kz;simp only[go_sem,<-q0,aB,g0,X,d1,d2,<-w,<-qz,gz,s,F];have u:(List.map cQ l.V).length=l.V.length:=L_ ..;by_cases U:0<l.c
 ·have S:=T_ U;have o:pcR l n=l.c+n:=P_ (.inl U);simp only[go_sem,S,F,s,hw];refine g _ _ ((C.set _ o_).set _ o_) (by simp only[aE];exact nz) ?_ ?_ ?_ k_ k_ k_ k_ k_
  ·rw[aA s,aA s];exact F
  ·rw[aA M,aA M];exact z1
  rw[o];exact aF _ _ _
 have S:=D_ U;by_cases hz:l.V.length=0
 ·have dz:decide ((l.V.length:Int)=0)=true:=t_;have o:pcR l n=l.c+n:=P_ (.inr hz);simp only[go_sem,S,F,s,hw,u,dz];refine g _ _ ((C.set _ o_).set _ o_) (by simp only[aE];exact nz) ?_ ?_ ?_ k_ k_ k_ k_ k_
  ·rw[aA s,aA s];exact F
  ·rw[aA M,aA M];exact z1
  rw[o];exact aF _ _ _
 have dz:decide ((l.V.length:Int)=0)=false:=d_;have o:pcR l n=0:=N_ (λe=>e.elim U hz);simp only[go_sem,S,F,s,u,dz];refine g _ _ (C.set _ o_) (by simp only[aE];exact nz) ?_ ?_ ?_ k_ k_ k_ k_ k_
 ·rw[aA s];exact F
 ·rw[aA M];exact z1
 rw[o];exact aF _ _ _
end
def Zc (f:a->b->a)(s:a){l:List b}{m:Nat}(hx:l[m]?=some x):l.foldl f s=(l.drop (m+1)).foldl f (f ((l.take m).foldl f s) x):=by
 conv=>lhs;rw[<-j_ m l,rW hx]
 rw[List.foldl_append,List.foldl_cons]
def reP (r:Option LL)(v:AV):Prop:=∃w e,v=Re w e/\(e=0->r=some w)/\(e≠0->r=none)
section
variable {K:aN}{h:AH}
def SH (x:LV)(H:AH):cw (.agg [.I 0,.clip [.agg [.I x.X,.I x.P]]]) H=(cB ⟨0,[x]⟩,H):=by
 rw[bQ (by simp[AV.free,AV.frees])];simp[AV.norm,AV.norms,cB,cQ]
theorem plus_err (l:LL)(n:Int):(gT l n).2=0\/(gT l n).2=15:=by
 unfold gT;cases (decide (100<pcR l n)||l.V.any λx=>decide (100<x.P+n))<;>simp
theorem c201 [RunsM K](vl:VL l){c:List LL}(vp:∀y∈c,VL y)(_ao:c.length<=1000000):Rt K (214) [cB l,.ls (c.map cB),.bool false] h λv h'=>reP (agE l c) v/\HK h h':=by
 refine aV cf201 ?_;have hl:=vl.len;have⟨H,q0,k0,n0,g0,g1⟩:∃H,H=(h.new (.box [.int .i64 l.c,.ls (l.V.map cQ)])).new (.box [.int .i64 0,.nl])/\HK h H/\H.z=h.z+2/\H.get h.z=some (.box [.int .i64 l.c,.ls (l.V.map cQ)])/\H.get (h.z+1)=some (.box [.int .i64 0,.nl]):=by
  have J:=Jb.two (X:=λ_=>False) h (.box [.int .i64 l.c,.ls (l.V.map cQ)]) (.box [.int .i64 0,.nl]) (λ_ q=>q.elim);exact⟨_,rfl,J.kw.k,by simp only[aB],J.c0⟩
 obtain⟨_,H1,e1,rfl,k1⟩:=c242 (h:=H) l.c;have l1:=k1.z;have⟨b,s⟩:∃b,b=H1.z:=⟨_,rfl⟩;have⟨M,q2,k2,n2,g8⟩:∃M:AH,M=(H1.new (.box [.int .i64 0,.nl])).set b (.box [.int .i64 l.c,.ls []])/\HK H1 M/\M.z=b+1/\M.get b=some (.box [.int .i64 l.c,.ls []]):=⟨_,rfl,(HK.new _ _).set _ o_,by rw[aE,aB,s],aF _ _ _⟩;have st:=aS (h:=H1.new (.box [.int .i64 0,.nl])) (k:=b) (vs:=[.int .i64 l.c,.ls []]) (sz:=2) (by rw[s];exact aD _ _) rfl rfl;rw[<-q2]at st;have N:=k2.up (k1.up g0);have f1:=k2.up (k1.up g1);have ad:=(k0.trans k1).trans k2;have hL:∀l:LL,cB l=.agg [.int .i64 l.c,.ls (l.V.map cQ)]:=λ_=>rfl;simp only[hL,List.map_nil]at e1;simp only[go_sem,<-q0,aB,g0,e1,<-s,st];refine bo (λj fr H=>∃tm m out,m+j=l.V.length/\fr=F_ 214 tm/\nth tm 1=.ls (c.map cB)/\nth tm 2=.bool false/\nth tm 3=.ptr h.z 0 0/\nth tm 6=.ptr (h.z+1) 0 0/\nth tm 7=.int .i64 0/\nth tm 8=.ptr b 0 0/\nth tm 9=.int .i64 (m:Int)/\
  HK h H/\b<H.z/\H.get h.z=some (.box [.int .i64 l.c,.ls (l.V.map cQ)])/\H.get (h.z+1)=some (.box [.int .i64 0,.nl])/\H.get b=some (.box [.int .i64 out.c,.ls (out.V.map cQ)])/\VL out/\(l.V.take m).foldl (ji c) (some ⟨l.c,[]⟩)=some out) l.V.length o_
  ⟨_,0,⟨l.c,[]⟩,z_ _,rfl,k_,k_,k_,k_,k_,k_,y_,ad,o_,N,f1,g8,VL.mk' vl.c0 vl.c1 (by simp) (by unfold Srt;simp) (by simp),rfl⟩ ?_
 have ak:h.z+2<=b:=o_;clear k0 n0 g0 g1 q0 e1 k1 l1 s q2 k2 n2 g8 st N f1 ad H H1 M;rintro j fr H ⟨tm,m,out,hm,rfl,P,t2,X,E,t7,C,R,kk,nx,N,f1,g8,vo,hf⟩;have kn:=kk.z;simp only[go_sem,R,X,N];refine aU (λV=>?_) (λan=>?_)
 ·have V:m<l.V.length:=o_;have⟨x,hx⟩:∃x,l.V[m]?=some x:=⟨_,a_ V⟩;have ia:=aR gG hx .i64;have af:cQ x=.agg [.int .i64 x.X,.int .i64 x.P]:=rfl;rw[af]at ia;have hw:=aP m o_;have rx:=vl.rng m x hx;have z:=Zc (ji c) (some ⟨l.c,[]⟩) hx;rw[hf]at z;have⟨g,qA,kA,_,gA⟩:∃g:AH,g=(H.new (.box [.int .i64 0,.int .i64 0])).set H.z (.box [.int .i64 x.X,.int .i64 x.P])/\HK H g/\g.z=H.z+1/\g.get H.z=some (.box [.int .i64 x.X,.int .i64 x.P]):=⟨_,rfl,(HK.new _ _).set _ (e_ _),by rw[aE,aB],aF _ _ _⟩;have Q:=aS (aD H (.box [.int .i64 0,.int .i64 0])) (vs:=[.int .i64 x.X,.int .i64 x.P]) (sz:=2) rfl rfl;rw[<-qA]at Q;have⟨f,qB,kB,_,gB⟩:∃f:AH,f=(g.new (.box [.int .i64 0,.nl])).set g.z (.box [.int .i64 0,.clip [.agg [.int .i64 x.X,.int .i64 x.P]]])/\HK g f/\f.z=g.z+1/\f.get g.z=some (.box [.int .i64 0,.clip [.agg [.int .i64 x.X,.int .i64 x.P]]]):=⟨_,rfl,(HK.new _ _).set _ (e_ _),by rw[aE,aB],aF _ _ _⟩;have Z:=aS (aD g (.box [.int .i64 0,.nl])) (vs:=[.int .i64 0,.clip [.agg [.int .i64 x.X,.int .i64 x.P]]]) (sz:=2) rfl rfl;rw[<-qB]at Z;have n:=kB.up gA;have i:=kA.trans kB;have T:=i.up N;have Y:=i.up f1;have u:=(i.kw _ nx).trans g8;have am:f.z=H.z+2:=o_;have jn:∀(a:LL) (cs:List AV) (p:AH),VL a->cw (.agg cs) p=(cB a,p)->HK H p->b<p.z->p.get h.z=some (.box [.int .i64 l.c,.ls (l.V.map cQ)])->p.get (h.z+1)=some (.box [.int .i64 0,.nl])->p.get b=some (.box [.int .i64 out.c,.ls (out.V.map cQ)])->ji c (some out) x=some (gi out a)->
    ∃A,cS K (.fn (226) [] []) [.agg [.int .i64 out.c,.ls (out.V.map cQ)],.agg cs] .no p=some (.ret (.agg [.int .i64 (gi out a).c,.ls ((gi out a).V.map cQ)]),.no,A)/\A.get b=some (.box [.int .i64 out.c,.ls (out.V.map cQ)])/\
     ∀L,L=A.set b (.box [.int .i64 (gi out a).c,.ls ((gi out a).V.map cQ)])->HK h L/\b<L.z/\L.get h.z=some (.box [.int .i64 l.c,.ls (l.V.map cQ)])/\L.get (h.z+1)=some (.box [.int .i64 0,.nl])/\L.get b=some (.box [.int .i64 (gi out a).c,.ls ((gi out a).V.map cQ)])/\VL (gi out a)/\(l.V.take (m+1)).foldl (ji c) (some ⟨l.c,[]⟩)=some (gi out a):=by
   intro a cs p vq U kh nh w0 w1 w8 r;obtain⟨_,A,I,rfl,k3⟩:=c202 (h:=p) out a (by have:=vo.len;omega) (by have:=vq.len;omega);have l3:=k3.z;refine⟨A,?_,(k3.kw _ nh).trans w8,?_⟩
   ·exact(dJ (c:=[]) (f:=226) (ae (rB out _) (ae U (aH _))) (ae (rB out _) (ae (rB a _) (aH _)))).trans I
   rintro _ rfl;refine⟨((kk.trans kh).trans k3).set _ o_,by rw[aE];omega,by rw[aA o_];exact k3.up w0,by rw[aA o_];exact k3.up w1,aF _ _ _,Aq vo vq,?_⟩;rw[Z_,hx,List.foldl_append,hf];exact r
  simp only[go_sem,X,R,N,ia,Q,gA,t2,Z,n];by_cases hm:0<=x.X/\x.X<(c.length:Int)
  ·have G:decide (x.X<0)=false:=d_;have d2:=T_ hm.2;have⟨y,hy⟩:∃y,c[x.X.toNat]?=some y:=⟨_,a_ o_⟩;have vy:=vp y (m_ hy);have iy:=aR fj hy .i64;rw[show((x.X.toNat:Nat):Int)=x.X by omega]at iy;have D:=λh=>eA (v:=cB y) (sz:=2) rfl (fj _) h;have r:ji c (some out) x=if (gT y x.P).2=0 then some (gi out (gT y x.P).1) else none:=by
    unfold ji;show(if 0<=x.X/\x.X<(c.length:Int) then _ else _)=_;rw[P_ hm,hy]
   have⟨F,qN,kN,_,gN⟩:∃F:AH,F=f.new (.box [.int .i64 0,.nl])/\HK f F/\F.z=f.z+1/\F.get f.z=some (.box [.int .i64 0,.nl]):=⟨_,rfl,HK.new _ _,aB _ _,aD _ _⟩;obtain⟨_,HC,O,rfl,kC⟩:=c243 (h:=F) vy x.P rx.2.2.1 rx.2.2.2;simp only[hL]at iy D O;have ff:rj (.bool false) .eql .boolK (.bool false)=some (.bool true):=rfl;have lC:=kC.z;have⟨w,e,o⟩:∃w e,gT y x.P=(w,e):=⟨_,_,rfl⟩;have gC:=kC.up gN;have⟨S,qD,kD,gD⟩:∃S:AH,S=HC.set f.z (.box [.int .i64 w.c,.ls (w.V.map cQ)])/\HK f S/\S.get f.z=some (.box [.int .i64 w.c,.ls (w.V.map cQ)]):=⟨_,rfl,(kN.trans kC).set _ (e_ _),aF _ _ _⟩;have B:=aS gC (vs:=[.int .i64 w.c,.ls (w.V.map cQ)]) (sz:=2) rfl rfl;rw[<-qD]at B;have ac:=kN.up n;have d:=kD;have lD:=kD.z;have ag:=d.up T;have ab:=d.up Y;have aa:=d.up u;have ai:=d.up gB;have al:=d.up n;unfold Re at O;rw[o]at O r;simp only[hL]at O;rcases plus_err y x.P with he|he
   ·rw[o]at he;obtain rfl:e=0:=he;rw[P_ rfl]at r;have vw:VL w:=by have:=(GP vy rx.2.2.1 (by rw[o])).1;rw[o]at this;exact this
    have d0:decide ((0:Int)≠0)=false:=rfl;have ah:=aS ai (vs:=[.int .i64 w.c,.ls (w.V.map cQ)]) (sz:=2) rfl rfl;have⟨A,I,g3,k⟩:=jn w [.int .i64 w.c,.ls (w.V.map cQ)] (S.set g.z (.box [.int .i64 w.c,.ls (w.V.map cQ)])) vw (rB w _) ((i.trans d).set _ o_) (by rw[aE];omega) (by rw[aA o_];exact ag) (by rw[aA o_];exact ab) (by rw[aA o_];exact aa) r;have n1:¬g.z=b:=o_;have n2:¬b=g.z:=o_;have t:=aS g3 (vs:=[.int .i64 (gi out w).c,.ls ((gi out w).V.map cQ)]) (sz:=2) rfl rfl;simp only[go_sem,G,d2,ff,P,iy,D,<-qN,ac,O,B,gD,ah,C,aa,n2,I,t,R,hw];have⟨a1,a2,a3,a4,a5,a6,a7⟩:=k _ rfl;exact⟨j-1,o_,_,m+1,gi out w,o_,rfl,q_ P,q_ t2,q_ X,q_ E,q_ t7,q_ C,k_,a1,a2,a3,a4,(by first|exact a5|rfl),a6,a7⟩
   rw[o]at he;obtain rfl:e=15:=he;rw[N_ (show ¬(15:Int)=0 by decide)]at r;have aj:=aS ab (vs:=[.int .i64 0,.nl]) (sz:=2) rfl rfl;simp only[go_sem,G,d2,ff,P,iy,D,<-qN,ac,O,B,E,aj];refine cO (.inr rfl) (by simp only[go_sem,E]<;>rfl) (ae (xQ _) (ae (aL _ _ _) (aH _))) ⟨⟨⟨0,[]⟩,15,rfl,λq=>by omega,λ_=>?_⟩,((kk.trans i).trans d).set _ o_⟩;show l.V.foldl _ _=none;rw[z,r,GM]
  have r:ji c (some out) x=some (gi out ⟨0,[x]⟩):=by
   unfold ji;show(if 0<=x.X/\x.X<(c.length:Int) then _ else _)=_;rw[N_ hm]
  have⟨_,I,g3,k⟩:=jn ⟨0,[x]⟩ _ f (UD rx) (SH x f) i o_ T Y u r;have t:=aS g3 (vs:=[.int .i64 (gi out ⟨0,[x]⟩).c,.ls ((gi out ⟨0,[x]⟩).V.map cQ)]) (sz:=2) rfl rfl;have ff:rj (.bool false) .eql .boolK (.bool false)=some (.bool true):=rfl;have tf:rj (.bool true) .eql .boolK (.bool false)=some (.bool false):=rfl;have⟨a1,a2,a3,a4,a5,a6,a7⟩:=k _ rfl;by_cases W:x.X<0
  ·have G:=T_ W;simp only[go_sem,G,tf,C,u,gB,I,t,R,hw];exact⟨j-1,o_,_,m+1,gi out ⟨0,[x]⟩,o_,rfl,q_ P,q_ t2,q_ X,q_ E,q_ t7,q_ C,k_,a1,a2,a3,a4,(by first|exact a5|rfl),a6,a7⟩
  have G:=D_ W;have d2:decide (x.X<(c.length:Int))=false:=d_;simp only[go_sem,G,d2,ff,P,C,u,gB,I,t,R,hw];exact⟨j-1,o_,_,m+1,gi out ⟨0,[x]⟩,o_,rfl,q_ P,q_ t2,q_ X,q_ E,q_ t7,q_ C,k_,a1,a2,a3,a4,(by first|exact a5|rfl),a6,a7⟩
 obtain rfl:m=l.V.length:=o_;rw[K_]at hf;have st:=aS f1 (vs:=[.int .i64 out.c,.ls (out.V.map cQ)]) (sz:=2) rfl rfl;simp only[go_sem,C,g8,E,st];exact cO (.inr rfl) (a:=.agg [.int .i64 out.c,.ls (out.V.map cQ)]) (by simp only[go_sem,E]<;>rfl) (ae (rB out _) (ae (aL _ _ _) (aH _))) ⟨⟨out,0,rfl,λ_=>hf,λq=>absurd rfl q⟩,kk.set _ o_⟩
def bq_L (l:LL):AV.beq (.eV l.V) (.eV l.V)=true:=gQ _
theorem c151 [RunsM K](d:VL l){a:List LL}(vp:∀y∈a,VL y)(c:a.length<=1000000):Rt K (186) [cB l,.eL a] h λv h'=>reP (jM l a) v/\HK h h':=by
 refine aV cf151 ?_;have V:=d.len;have⟨H,O,s,_,p,M⟩:∃H,H=(h.new (.box [.I l.c,.eV l.V])).new (.box [.I 0,.nl])/\HK h H/\H.z=h.z+2/\H.get h.z=some (.box [.I l.c,.eV l.V])/\H.get (h.z+1)=some (.box [.I 0,.nl]):=by
  have J:=Jb.two (X:=λ_=>False) h (.box [.I l.c,.eV l.V]) (.box [.I 0,.nl]) (λ_ q=>q.elim);exact⟨_,rfl,J.kw.k,by simp only[aB],J.c0⟩
 obtain⟨_,I,f,⟨b,rfl,G⟩,n⟩:=c21 (h:=H) l o_;obtain rfl:=G.2 d;have f:=f;obtain⟨_,L,E,⟨_,rfl,r⟩,i⟩:=c200 (h:=I) a c (λx hx=>by have:=(vp x hx).len;omega);obtain rfl:=r.2 vp;obtain⟨_,F,z,rfl,B⟩:=c204 (h:=L) d;have T:=n.z;have Q:=i.z;have W:=B.z;have g:=n.trans (i.trans B);have o:=((n.trans i).kw h.z o_).trans p;have N:=g.up p;have C:=g.up M;have D:∀l:LL,cB l=.agg [.I l.c,.eV l.V]:=λ_=>rfl;simp only[D l]at f z;simp only[go_sem,<-O,aB,p,f,E,o,z];by_cases t:gX l > (a.length:Int)
 ·have k:=T_ t;have st:=aS C (vs:=[.I 0,.nl]) (sz:=2) rfl rfl;simp only[go_sem,k,st];exact cO (.inr rfl) (by simp only[go_sem]<;>rfl) (ae (xQ _) (ae (aL _ _ _) (aH _))) ⟨⟨⟨0,[]⟩,24,rfl,λq=>by omega,λ_=>by unfold jM;rw[P_ o_]⟩,(s.trans g).set _ o_⟩
 have k:=D_ t;obtain⟨_,_,m,⟨w,e,rfl,u,A⟩,j⟩:=c201 (h:=F) d vp c;have S:=j.z;have st:=aS (j.up C) (vs:=[.I w.c,.eV w.V]) (sz:=2) rfl rfl;have P:=bq_L w;unfold Re at m;simp only[D]at m;rw[<-Xs d vp o_]at u A;simp only[go_sem,k,N,m,st];exact cO (.inr rfl) (a:=.agg [.I w.c,.eV w.V]) (by simp only[go_sem]<;>rfl) (ae (rB w _) (ae (aL _ _ _) (aH _))) ⟨⟨w,e,rfl,u,A⟩,((s.trans g).trans j).set _ o_⟩
end
def Cp {f:b->Option a}{l:List b}{p:Nat}{r:List a}{y:a}(hx:l[p]?=some x)(c:mapG f (l.take p)=some r)(d:f x=some y):mapG f (l.take (p+1))=some (r++[y]):=by
 rw[iN hx];exact sI c d
section
variable {K:aN}{w:Nat}{nn:Int}
theorem c104 [RunsM K]{r:List LL}(vp:∀y∈r,VL y)(ax:r.length<=1000000):∀(n:Nat) (t:T) (e:Int) (h:AH),aO t<=n->aO t<=10000000->TOK t->Wlk h w e nn->w<h.z->
  Rt K (151) [.P w,enc t,.eL r,.bool false] h λv h'=>∃t' b,v=enc t'/\HKx w h h'/\Wlk h' w b nn/\(b=0->e=0/\ja r t=some t')/\(b≠0->e≠0\/ja r t=none):=by
 intro n;induction n with
 |zero=>intro t e h hm;have:=bI t;omega
 |succ n ih=>
  intro t e h hm au tok hw wl;have⟨k,i,nm,ls,ks⟩:=t;refine aV cf104 ?_;rw[TOK]at tok;have⟨nd,ap⟩:=tok;have aq:aO (.mk k i nm ls ks)=1+ba ks:=by simp only[aO]
  have ay:=bO ks;rw[aq]at hm au;have a2:ls.length<=8:=by
   by_cases h2:k=2
   ·have:=nd.lev.1 h2;omega
   by_cases h3:k=3
   ·exact nd.lev.2.1 h3
   rw[nd.lev.2.2 h2 h3];simp
  let X:Nat->Prop:=(·=w)
  let P:dF:=.box [.I k,.I i,.str nm,.eL ls,.eT ks]
  have J0:Jg cB 2 X [(h.z,P),(h.z+1,zB)] (h.z+2) h ((h.new P).new zB) .nl []:=by
   have J:=Jb.two (X:=X) h P zB (λk hk=>by show k<h.z;have:=hk;omega);exact⟨J.hX,J.hL,J.cells,cV _ _ _ _,J.kw,J.nx⟩
  have w0:Wlk ((h.new P).new zB) w e nn:=(((HK.new _ _).add _).kw w wl).trans hw;rw[pQ];simp only[go_sem,aB];refine bo (λj fr H=>∃tm p V out b,p+j=ls.length/\fr=F_ 151 tm/\nth tm 0=.P w/\nth tm 2=.eL r/\nth tm 3=.bool false/\nth tm 5=.P h.z/\nth tm 8=.P (h.z+1)/\nth tm 9=V/\nth tm 10=.I (p:Int)/\
   Jg cB 2 X [(h.z,P),(h.z+1,zB)] (h.z+2) h H V out/\out.length=p/\Wlk H w b nn/\(b=0->e=0/\mapG (λl=>jM l r) (ls.take p)=some out)/\(b≠0->e≠0\/mapG (λl=>jM l r) ls=none)) ls.length o_
   ⟨_,0,.nl,[],e,z_ _,rfl,k_,k_,k_,k_,k_,k_,y_,J0,rfl,w0,λq=>⟨q,rfl⟩,λq=>.inl q⟩ ?_
  clear J0 w0;rintro j fr H ⟨tm,p,V,out,b,hp,rfl,t0,L,G,s,S,t9,M,J,av,wH,hz,af⟩;have C:=J.cells (h.z,P) (by simp);have g8:=J.cells (h.z+1,zB) (by simp);simp only[P]at C g8;have nx:=J.nx;have⟨E,_,_⟩:=jD J.own;simp only[go_sem,M,s,C];refine aU (λD=>?_) (λar=>?_)
  ·have D:p<ls.length:=o_;have⟨x,hx⟩:∃x,ls[p]?=some x:=⟨_,a_ D⟩;have vx:=nd.val x (m_ hx);have ia:=aR fj hx .i64;have Y:=λh=>eA (v:=cB x) (sz:=2) rfl (fj _) h;have hL:∀l:LL,cB l=.agg [.I l.c,.eV l.V]:=λ_=>rfl;have F:=aP p o_;obtain⟨_,Z,e1,⟨y,f,rfl,r1,r2⟩,k1⟩:=c151 (h:=H) vx vp ax;have l1:=k1.z;unfold Re at e1;simp only[hL]at e1 ia Y;have⟨H2,N,k2,n2,g2⟩:∃H2:AH,H2=(Z.new (.box [.I 0,.nl])).set Z.z (.box [.I y.c,.eV y.V])/\HK Z H2/\H2.z=Z.z+1/\H2.get Z.z=some (.box [.I y.c,.eV y.V]):=⟨_,rfl,(HK.new _ _).set _ (e_ _),by rw[aE,aB],aF _ _ _⟩;have aa:=aS (aD Z (.box [.I 0,.nl])) (vs:=[.I y.c,.eV y.V]) (sz:=2) rfl rfl;rw[<-N]at aa;have kk:=k1.trans k2;have w2:=kk.up wH;have az:=bq_L y;have nxt:∀(R:AH) (o:Int),HKx w H R->R.get Z.z=some (.box [.I y.c,.eV y.V])->Wlk R w o nn->(o=0->b=0/\f=0)->(o≠0->b≠0\/f≠0)->
     ∃A O,cI R 2 true [.I 0,.nl] 32 V (.clip [.agg [.I y.c,.eV y.V]])=some (A,O)/\AV.beq A A=true/\Jg cB 2 X [(h.z,P),(h.z+1,zB)] (h.z+2) h O A (out++[y])/\(out++[y]).length=p+1/\Wlk O w o nn/\(o=0->e=0/\mapG (λl=>jM l r) (ls.take (p+1))=some (out++[y]))/\(o≠0->e≠0\/mapG (λl=>jM l r) ls=none):=by
    intro R o I g3 w3 z1 z2;have⟨A,O,e4,U,m,k4⟩:=(J.up (X:=X) ⟨I.z,λa B q=>I.kw a B q⟩).add y ⟨rfl,rfl,by rfl⟩ o_;refine⟨A,O,e4 _ _ rfl (by decide),m,U,by simp[av],(k4 w o_).trans w3,λq=>?_,λq=>?_⟩
    ·have⟨W,N⟩:=z1 q;have⟨q3,q4⟩:=hz W;exact⟨q3,Cp hx q4 (r1 N)⟩
    rcases z2 q with q|q
    ·exact af q
    exact .inr (oY (m_ hx) (r2 q))
   by_cases hf:f=0
   ·subst hf;have d0:decide ((0:Int)≠0)=false:=rfl;have⟨A,O,e4,m,U,ac,w4,z1,z2⟩:=nxt H2 b (kk.x w) g2 w2 (λq=>⟨q,rfl⟩) (λq=>.inl q);simp only[go_sem,s,M,L,C,ia,Y,e1,aa,G,g2,t9,e4,F];exact⟨j-1,o_,_,p+1,A,out++[y],b,o_,rfl,q_ t0,q_ L,q_ G,q_ s,q_ S,k_,k_,U,ac,w4,z1,z2⟩
   have d0:=D_ hf;obtain⟨_,R,e3,rfl,I,w3⟩:=agS f w2;have g3:=I.up g2;have⟨A,O,e4,m,U,ac,w4,z1,z2⟩:=nxt R _ ((kk.x w).trans I) g3 w3 (λq=>by split at q<;>omega) (λq=>.inr hf);simp only[go_sem,t0,s,M,L,C,ia,Y,e1,aa,G,d0,e3,g3,t9,e4,F];exact⟨j-1,o_,_,p+1,A,out++[y],_,o_,rfl,q_ t0,q_ L,q_ G,q_ s,q_ S,k_,k_,U,ac,w4,z1,z2⟩
  obtain rfl:p=ls.length:=o_;rw[K_]at hz;have⟨_,an,ah⟩:=jD J.own;simp only[go_sem,t9,s,C,an,ah];let B1:dF:=.box [.I k,.I i,.str nm,V,.eT ks]
  have kJ:=J.kw;have ak:=uO J.own;have z:Jb X [(h.z,B1),(h.z+1,zB)] H.z h (H.set h.z B1) .nl []:=by
   refine⟨J.hX,by simp;omega,?_,cV _ _ _ _,kJ.set _ o_,by rw[aE];omega⟩;simp only[X_,List.not_mem_nil,or_false,forall_eq_or_imp,forall_eq];exact⟨aF _ _ _,by rw[aA o_];exact g8⟩
  have o0:Own (h.z+2) 2 true (H.set h.z B1) V (out.map cB):=bP J.own (by rw[aE];exact e_ _) λa B _=>aA o_;have wB:Wlk (H.set h.z B1) w b nn:=(aA o_).trans wH;refine bo (λj fr u=>∃tm p d ko o,p+j=ks.length/\fr=F_ 151 tm/\nth tm 0=.P w/\nth tm 2=.eL r/\nth tm 3=.bool false/\nth tm 5=.P h.z/\nth tm 8=.P (h.z+1)/\nth tm 13=d/\nth tm 14=.I (p:Int)/\
   Jb X [(h.z,B1),(h.z+1,zB)] H.z h u d ko/\Own (h.z+2) 2 true u V (out.map cB)/\ko.length=p/\Wlk u w o nn/\(o=0->b=0/\mapG (ja r) (ks.take p)=some ko)/\(o≠0->b≠0\/mapG (ja r) ks=none)) ks.length o_
   ⟨_,0,.nl,[],b,z_ _,rfl,q_ t0,q_ L,q_ G,q_ s,q_ S,k_,y_,z,o0,rfl,wB,λq=>⟨q,rfl⟩,λq=>.inl q⟩ ?_
  clear z o0 wB C g8 t0 L G s S t9 M;rintro j2 fr u ⟨tm,p,d,ko,o,a3,rfl,t0,L,G,s,S,aj,ag,z,o4,ai,w2,ab,Q⟩;have C:=z.cells (h.z,B1) (by simp);have g8:=z.cells (h.z+1,zB) (by simp);simp only[B1]at C g8;have a0:=z.nx;have am:=z.beq;simp only[go_sem,ag,s,C];refine aU (λD=>?_) (λar=>?_)
  ·have D:p<ks.length:=o_;have c:=a_ D;have B:=aR bH c .i64;have a1:=cH (m_ c);have F:=aP p o_;obtain⟨_,_,e3,x,aw,rfl,I,w3,r1,r2⟩:=ih ks[p] o u o_ o_ (dh.1 ap _ (m_ c)) w2 (by have:=z.kw.z;omega);have l3:=I.z;have⟨A,O,e4,U,_,k4⟩:=(z.up I.p).add x o_;have n4:=U.nx;have o5:Own (h.z+2) 2 true O V (out.map cB):=by
    obtain⟨p1,p2|⟨a,g,W,N,q3,q4⟩⟩:=o4
    ·exact⟨p1,.inl p2⟩
    have:=ak a g _ W;exact⟨p1,.inr ⟨a,g,W,((k4 a o_).trans (I.kw a o_ o_)).trans N,o_,q4⟩⟩
   simp only[go_sem,t0,L,G,s,aj,ag,C,B,e3,e4,F];refine⟨j2-1,o_,_,p+1,A,ko++[x],aw,o_,rfl,q_ t0,q_ L,q_ G,q_ s,q_ S,k_,k_,U,o5,by simp[ai],(k4 w o_).trans w3,λq=>?_,λq=>?_⟩
   ·have⟨W,N⟩:=r1 q;have⟨q3,q4⟩:=ab W;exact⟨q3,Cp c q4 N⟩
   rcases r2 q with q|q
   ·exact Q q
   exact .inr (oY (m_ c) q)
  obtain rfl:p=ks.length:=o_;rw[K_]at ab;have⟨ad,al⟩:=z.vc;have n1:¬h.z=h.z+1:=o_;have n2:¬h.z+1=h.z:=o_;have⟨_,_,_⟩:=jD o4;simp only[go_sem,aj,s,C,ad,al,S,g8,n2];have oF:∀a,h.z+2<=a->((u.set h.z (.box [.I k,.I i,.str nm,V,d])).set (h.z+1) (.box [.I k,.I i,.str nm,V,d])).get a=u.get a:=λa B=>by rw[aA o_,aA o_]
  have kF:∀a,a<h.z->((u.set h.z (.box [.I k,.I i,.str nm,V,d])).set (h.z+1) (.box [.I k,.I i,.str nm,V,d])).get a=u.get a:=λa B=>by rw[aA o_,aA o_]
  have nF:((u.set h.z (.box [.I k,.I i,.str nm,V,d])).set (h.z+1) (.box [.I k,.I i,.str nm,V,d])).z=u.z:=by simp only[aE]
  have gF:((u.set h.z (.box [.I k,.I i,.str nm,V,d])).set (h.z+1) (.box [.I k,.I i,.str nm,V,d])).get (h.z+1)=some (.box [.I k,.I i,.str nm,V,d]):=aF _ _ _;revert oF kF nF gF;generalize ((u.set h.z (.box [.I k,.I i,.str nm,V,d])).set (h.z+1) (.box [.I k,.I i,.str nm,V,d]))=HF;intro oF kF nF gF;have⟨_,e5,n5,k5⟩:=MZ k i nm (bP (h':=HF) o4 o_ λa B _=>oF a B) (λa g n q=>(ak a g n q).2) (bP (h':=HF) z.own o_ λa B _=>oF a o_) o_;have ao:=z.kw;refine cG (.inr rfl) (v:=.agg [.I k,.I i,.str nm,V,d]) (by simp only[go_sem,S,gF]<;>rfl) e5 ⟨.mk k i nm out ko,o,rfl,⟨by rw[n5,nF];exact ao.z,λa B q=>(k5 a o_).trans ((kF a B).trans (ao.kw a B q))⟩,(k5 w o_).trans ((kF w wl).trans w2),λq=>?_,λq=>?_⟩
  ·have⟨W,N⟩:=ab q;have⟨q3,q4⟩:=hz W;refine⟨q3,?_⟩;rw[ja,q4];simp only;rw[pZ,N]
  rcases Q q with q|q
  ·rcases af q with q|q
   ·exact .inl q
   refine .inr ?_;rw[ja,q]
  refine .inr ?_;rw[ja];cases mapG (λl=>jM l r) ls with
  |none=>rfl
  |some _=>simp only;rw[pZ,q]
theorem WO [RunsM K]{f:List LL}(vp:∀y∈f,VL y)(o:f.length<=1000000)(t:T)(h:AH)(hs:aO t<=10000000)(tok:TOK t):
  Rt K (111) [enc t,.eL f] h λv h'=>(∃b e,v=.tup [enc b,.I e]/\(e=0->ja f t=some b)/\(e≠0->ja f t=none))/\HK h h':=by
 refine aV ae2 ?_;let x:dF:=.box (h_ t)
 have⟨H,w,z,_,s,C,J⟩:=VD h x zB (.box [.I 0,.I 0]);obtain⟨_,F,p,b,i,rfl,l,G,E,A⟩:=c104 (w:=h.z+2) (nn:=0) vp o (aO t) t 0 H (e_ _) hs tok J o_;have M:=l.z;have k:=l.up C;have⟨I,_,m,g,_,u⟩:=oN F b;have c:=g.up k;have j:=g.up G;have r:HK h I:=⟨by have:=g.z;omega,λa L=>g.up (l.up (z.kw a L))⟩;simp only[x]at w s;unfold aG at u;unfold Wlk at j;rw[aJ]at p ⊢;simp only[go_sem,aB,<-w,s,p,m,j];by_cases n:i=0
 ·subst n;simp only[go_sem,u,c];exact EP b 0 (by simp only[go_sem,aG]<;>rfl) ⟨⟨b,0,rfl,λ_=>(E rfl).2,λq=>absurd rfl q⟩,r.set _ o_⟩
 have d:=D_ n;have B:¬h.z+1=h.z+1+1:=o_;have D:¬h.z+1+1=h.z+1:=o_;simp only[go_sem,d,j,c,D];exact Ka i (by simp only[go_sem]<;>rfl) ⟨⟨zero,i,rfl,λq=>absurd q n,λq=>(A q).elim (λq=>absurd rfl q) id⟩,r.set _ o_⟩
end
theorem wL:∀(l:List T) (n:Nat),n<=l.length->uo true 5 n (bJ (l.map enc))=some ((l.take n).map enc)
 |_,0,_=>by rw[List.take_zero];rfl
 |[],n+1,h=>by simp at h
 |t::l,n+1,h=>by
  have c:=wL l n (by simpa using h);have a:=bH t;rw[yX,List.map_cons,cK];have d:xG true 5 0 ((enc t).cells++bJ (l.map enc))=some (enc t):=by
   have b:=jo t;rw[lv _ _ _ (by rw[H_];omega),List.drop_zero,<-a,List.take_left' rfl];cases e:enc t<;>rw[e]at b<;>simp[AV.isAgg,AV.cells]at b ⊢
  rw[d,aK,iC,<-a,List.drop_left' rfl,a,c,List.take_succ_cons,List.map_cons];rfl
def Bl (base top:Nat)(h:AH)(V:AV)(l:List T):Prop:=(V=.nl/\l=[])\/∃k g fz,V=.row k g 5 0 l.length/\h.get k=some (.row g 5 true (bJ (l.map enc)) fz)/\base<=k/\k<top
def Gc (V:AV)(i j:Nat):AV:=match V with
 |.row k g sz _ _=>.row k g sz i (j-i)
 |v=>v
section
variable {base top:Nat}{h h':AH}{V:AV}{l:List T}
theorem Bl.of (o:Own base 5 true h V (l.map enc)):Bl base h.z h V l:=by
 obtain⟨_,⟨rfl,e⟩|⟨k,g,rfl,b,c,a⟩⟩:=o
 ·exact .inl ⟨rfl,List.map_eq_nil_iff.1 e⟩
 exact .inr ⟨k,g,0,by rw[L_],b,a,c⟩
theorem Bl.kw (b:Bl base top h V l)(hk:∀k,base<=k->k<top->h'.get k=h.get k):Bl base top h' V l:=by
 rcases b with q|⟨k,g,fz,e,d,c,a⟩
 ·exact .inl q
 exact .inr ⟨k,g,fz,e,(hk k c a).trans d,c,a⟩
theorem Bl.len (b:Bl base top h V l)(H:AH):lenOf V H 1=some l.length:=by
 rcases b with⟨rfl,rfl⟩|⟨k,g,fz,rfl,_⟩
 ·rfl
 simp[zH]
theorem Bl.beq (b:Bl base top h V l):AV.beq V V=true:=by
 rcases b with⟨rfl,rfl⟩|⟨k,g,fz,rfl,_⟩
 ·rfl
 exact gQ _
theorem Bl.get (b:Bl base top h V l){a:Nat}{x:T}(c:l[a]?=some x):∃p,bW V 5 (.I (a:Int))=some p/\cC p h true 5=some (enc x):=by
 have e:=(E_.1 c).1;rcases b with⟨rfl,rfl⟩|⟨k,g,fz,rfl,d,_⟩
 ·simp at c
 exact⟨_,jf e .i64,Mk d (λy f=>by obtain⟨z,_,rfl⟩:=List.mem_map.1 f;exact bH z) (jo x) (by rw[List.getElem?_map,c];rfl)⟩
theorem RB (b:Bl base top h V l)(i j:Nat):AV.beq (Gc V i j) (Gc V i j)=true:=by
 rcases b with⟨rfl,rfl⟩|⟨k,g,fz,rfl,_⟩
 ·rfl
 exact gQ _
theorem Bl.cut (b:Bl base top h V l)(a:j<=l.length):FG V 5 i j=some (Gc V i j):=by
 rcases b with⟨rfl,rfl⟩|⟨k,g,fz,rfl,_⟩
 ·rfl
 show cond (Nat.beq 5 5) (some (AV.row k g 5 (0+i) (j-i))) none=_;rw[z_];rfl
theorem Bl.slLen (b:Bl base top h V l):slLen V=some l.length:=by
 rcases b with⟨rfl,rfl⟩|⟨k,g,fz,rfl,_⟩<;>rfl
def Bl.lo (b:Bl base top h V l)(hi:i<=l.length){x:AX}(e:ev x tm=.I (i:Int)):fb 5 V tm (some x) none=some (Gc V i l.length):=by
 unfold fb;rw[b.slLen,aK];show aI (some l.length) _=_;rw[aK,oV e hi,aK];exact b.cut (e_ _)
theorem Bl.hi (b:Bl base top h V l)(a:j<=l.length):mO 5 V (.I (j:Int))=some (Gc V 0 j):=by
 unfold mO;rw[b.slLen,aK];have e:py (.I (j:Int)) l.length=some j:=by
  show aI (some j) (λm=>cond (Nat.ble m l.length) (some m) none)=_;rw[aK,fK a];rfl
 rw[e,aK];exact b.cut a
theorem Bl.can (b:Bl base top h V l)(i j:Nat)(hi:i<=j)(m:j<=l.length):∃h',cw (Gc V i j) h=(.eT ((l.drop i).take (j-i)),h')/\h'.z=h.z/\(∀k,k<base\/top<=k->h'.get k=h.get k)/\Bl base top h' V l:=by
 rcases b with⟨rfl,rfl⟩|⟨k,g,fz,rfl,d,c,a⟩
 ·exact⟨h,by simp[Gc];rfl,rfl,λ_ _=>rfl,.inl ⟨rfl,rfl⟩⟩
 refine⟨h.set k (.row g 5 true (bJ (l.map enc)) (max fz ((i+(j-i))*5))),?_,aE _ _ _,λf hk=>aA o_,.inr ⟨k,g,_,rfl,aF _ _ _,c,a⟩⟩;show((nI _ h).1.norm,(nI _ h).2)=_;have e:=uY (off:=i) (n:=j-i) (es:=((l.drop i).take (j-i)).map enc) d (by rw[tU,wL _ _ (by rw[List.length_drop];omega)]);rw[show nI (Gc (.row k g 5 0 l.length) i j) h=dM (.row k g 5 i (j-i)) h from rfl,e];simp only[AV.norm,bB iU]
theorem Bl.can0 (b:Bl base top h V l):∃h',cw V h=(.eT l,h')/\h'.z=h.z/\(∀k,k<base\/top<=k->h'.get k=h.get k)/\Bl base top h' V l:=by
 have⟨h',e,q⟩:=b.can 0 l.length (Nat.zero_le _) (e_ _);refine⟨h',?_,q⟩;have:Gc V 0 l.length=V:=by rcases b with⟨rfl,rfl⟩|⟨k,g,fz,rfl,_⟩<;>rfl
 rw[this]at e;rw[e];simp
end
theorem DH (l:List T):fZ 5 (l.map enc)=true:=oR bH l
def BO (l:List T){x:AX}(e:ev x tm=.int .i64 (n:Int))(hn:n<=l.length):fb 5 (.ls (l.map enc)) tm (some x) none=some (.ls ((l.drop n).map enc)):=by
 unfold fb;show aI (some (len (l.map enc))) _=_;rw[aK,bT,L_];show aI (some l.length) _=_;rw[aK,oV e hn,aK];show cond (fZ 5 (l.map enc)) (some (AV.ls (tke (l.length-n) (drp n (l.map enc)))) ) none=_;rw[DH,lu,iC,l_ (by simp),List.map_drop];rfl
def BP (l:List T)(hn:n<=l.length):mO 5 (.eT l) (.I (n:Int))=some (.eT (l.take n)):=nR bH l .i64 n hn
def Oa (a b c:T)(tm:Tm):fb 5 (.ls [enc a,enc b,enc c]) tm (some (.c (.I 1))) (some (.c (.I 2)))=some (.ls [enc b]):=by
 unfold fb;show cond (fZ 5 ([a,b,c].map enc)) (some (AV.ls [enc b])) none=_;rw[DH];rfl
theorem acr {base:Nat}{V:AV}{out:List T}(o:Own base 5 true h V (out.map enc))(q:base<=h.z)(l:List T)(hn:out.length+l.length<=800000000000):
  ∃f h',cI h 5 true zT 80 V (.eT l)=some (f,h')/\Own base 5 true h' f ((out++l).map enc)/\h.z<=h'.z/\(∀k,k<base->h'.get k=h.get k)/\(∀k g n,f=.row k g 5 0 n->k=h.z\/∃g n,V=.row k g 5 0 n)/\∀k,k<h.z->(∀g n,V≠.row k g 5 0 n)->h'.get k=h.get k:=by
 have b:∀(l:List T),∀x∈l.map enc,x.cells.length=5/\x.isAgg=true:=λl x hx=>by obtain⟨z,_,rfl⟩:=List.mem_map.1 hx;exact⟨bH z,jo z⟩
 have e0:cI h 5 true zT 80 V (.eT l)=List.casesOn (l.map enc) (qP V h) λy A=>kO V h 5 true 80 (y::A):=by
  show aI (cond (fZ 5 (l.map enc)) (some (l.map enc)) none) (λs=>cond (and (fT s) (Nat.beq (len (zT:List AV)) 5)) _ _)=_;rw[DH];show cond (and (fT (l.map enc)) true) _ _=_;rw[uc rT];rfl
 have⟨w,i⟩:=o;cases l with
 |nil=>
  rw[A_];refine⟨V,h,?_,⟨w,i⟩,e_ _,λ_ _=>rfl,λk g n e=>.inr ⟨g,n,e⟩,λ_ _ _=>rfl⟩;rw[e0];rcases i with⟨rfl,_⟩|⟨k,g,rfl,_⟩<;>rfl
 |cons a l=>
  have c:∀n,n+(a::l).length<=800000000000->need n ((a::l).map enc).length 80=true:=by
   intro n hn;show and (Nat.ble ((2*(n+((a::l).map enc).length)+1000)*80) 140737488355328) (Nat.ble (n+((a::l).map enc).length) 9223372036854775807)=true;simp only[L_]at *;rw[fK o_,fK o_];rfl
  rcases i with⟨rfl,m⟩|⟨k,g,rfl,v,t,u⟩
  ·rw[List.map_eq_nil_iff]at m;subst m;refine⟨.row h.z 0 5 0 ((a::l).map enc).length,h.new (.row 0 5 true (bJ ((a::l).map enc)) 0),?_,⟨b _,.inr ⟨h.z,0,rfl,aD _ _,by rw[aB];omega,q⟩⟩,by rw[aB];omega,λk hk=>aM o_,λk g n e=>.inl (by cases e;rfl),λk hk _=>aM o_⟩;rw[e0];show cond (need 0 (len ((a::l).map enc)) 80) (some (AV.row h.z 0 5 0 (len ((a::l).map enc)),h.new (.row 0 5 true (bJ ((a::l).map enc)) 0))) none=_;rw[bT,c 0 (by simp only[List.length_nil]at hn;omega)];rfl
  have d:=lR (λx hx=>(b out x hx).1);have r:AG.kR h k g 5=some (true,bJ (out.map enc),0):=by
   unfold AG.kR;rw[v,aK];show aI (some (g,5,true,bJ (out.map enc),0)) _=_;rw[aK];show cond (and (Nat.beq g g) (Nat.beq 5 5)) _ _=_;rw[fR,fR];rfl
  refine⟨.row k (g+1) 5 0 ((out.map enc).length+((a::l).map enc).length),h.set k (.row (g+1) 5 true (bJ ((out++a::l).map enc)) 0),?_,⟨b _,.inr ⟨k,g+1,by simp,aF _ _ _,by rw[aE];exact t,u⟩⟩,by rw[aE];exact e_ _,λj p=>aA o_,λB C n' e=>.inr (by cases e;exact⟨g,_,rfl⟩),λj _ p=>aA (λe=>by subst e;exact p g _ rfl)⟩;rw[e0];show cond (Nat.beq 5 5) (aI (AG.kR h k g 5) _) none=_;rw[fR,r,cond_true,aK];show cond (and (nJ true true) (and (Nat.ble 0 ((0+(out.map enc).length)*5)) (and (Nat.ble ((0+(out.map enc).length)*5) (len (bJ (out.map enc)))) (need (out.map enc).length (len ((a::l).map enc)) 80))))
   (some (AV.row k (g+1) 5 0 ((out.map enc).length+len ((a::l).map enc)),h.set k (.row (g+1) 5 true (app (tke ((out.map enc).length*5) (drp (0*5) (bJ (out.map enc)))) (bJ ((a::l).map enc))) (0-0*5)))) none=_
  have es:nJ true true=true:=rfl;rw[es,bT,bT,c _ (by rw[L_];exact hn),fK (show 0<=(0+(out.map enc).length)*5 by omega),fK (show(0+(out.map enc).length)*5<=(bJ (out.map enc)).length by rw[d,z_];exact e_ _)];simp only[Nat.zero_mul,Nat.sub_self,lY,lu,iC,List.drop_zero];rw[<-d,K_,<-fW,<-List.map_append];rfl
theorem sV (f:T)(a b:List T):bA f (a++b)=bA (bA f a) b:=by
 induction a generalizing f with
 |nil=>rfl
 |cons x a c=>exact c _
def nbD (h:AH)(a:List AV)(b:a.length=23):∃H,H=(h.new (.box zD)).set h.z (.box a)/\cY (.P h.z) (h.new (.box zD)) 23 (.agg a)=some H/\HK h H/\H.z=h.z+1/\H.get h.z=some (.box a):=
 ⟨_,rfl,aS (aD _ _) rfl b,(HK.new _ _).set _ (e_ _),by rw[aE,aB],aF _ _ _⟩
theorem FmR.up {t:T}{e:Int}{h:Option CT}(f:FmR t e 1 c h){g:CT}(q:h=some g):∃d,c=some d/\e=0/\g.n=d.n+aO t/\d.f<g.f/\aO t<=2000:=by
 have⟨d,a,b,_,_,f,s⟩:=f g q;exact⟨d,a,b,o_,f,s⟩
def Up (c b:Option CT):Prop:=∀a,b=some a->∃d,c=some d/\d.n<=a.n/\d.f<=a.f
theorem Up.refl (c:Option CT):Up c c:=λd q=>⟨d,q,Int.le_refl _,Int.le_refl _⟩
theorem Up.trans {a b:Option CT}(x:Up a b)(y:Up b c):Up a c:=λd q=>by
 have⟨h,g,_,_⟩:=y d q;have⟨f,e,_,_⟩:=x h g;exact⟨f,e,o_,o_⟩
def StP (C:MK.Cx)(g:T)(a:List T)(c h:Option CT)(e:Nat)(v:AV):Prop:=
 (v=.tup [enc zero,.bool false]/\∀b,h=some b->∃d,c=some d/\d.n<=b.n/\d.f<=b.f/\∃n,MK.step C (Wn C n) g a=some (.stuck g a))\/
 (∃f,v=.tup [enc f,.bool true]/\TOK f/\aO f<=e/\∀b,h=some b->∃d,c=some d/\d.n<b.n/\d.f<=b.f/\(aO f:Int)+d.n<=aO (bA g a)+b.n/\
  ∃n x l,MK.step C (Wn C n) g a=some (.next x l)/\f=bA x l)
structure WR (C:MK.Cx)(N:Nat)(t t':T)(c c':Option CT):Prop where
 tok:TOK t'
 up:Up c c'
 ov:aO t'<=aO t+2000+200000*N
 ok:∀d d',c=some d->c'=some d'->(aO t':Int)+d.n<=aO t+d'.n/\∃n,wf C n t []=some t'
section
variable {K:aN}{h:AH}{w:Nat}
theorem c1113 [RunsM K]{g:List DV}(eg:Eg g){a m:T}{b:List T}{d:DV}{X:Option CT}(th:TOK f)(hk:f.D=3)(ta:∀x∈b,TOK x)(dm:d∈g)(a4:d.D=3)
  (ak:rY g f.N=.tup [gJ d,.I (-2),.bool true])
  (hc:oD g f.N f.L.length=.rcr (bM d) (bM d+((fD d.type).length:Int)-d.f).toNat d.N d.R)
  (E:b[(bM d+((fD d.type).length:Int)-d.f).toNat]?=some a) (Y:WR (Ce g inst) N a m c X) (bv:aO (bA f b)<=1000000) (hN:N<=100000) (x:Cn h w X) (hw:w<h.z) :
  Rt K (113) [.eD g,enc f,.eT b,enc m,.P w] h λv h'=>HKx w h h'/\∃Z,Cn h' w Z/\StP (Ce g inst) f b c Z (60000+aO (bA f b)+aO m) v:=by
 refine aV ae0 ?_;have dg:=eg.dg d dm;have av:=dg.fx0;have bq:=dg.fx1 a4;have aw:=dg.ty;have bk:=iM _ d.type (e_ _);have b2:=dg.ds.C;have a5:(Ce g inst).cst f.N f.L.length=_:=hc;have B:=λW=>zZ a5 W f.X f.K b;have az:T.mk 3 f.X f.N f.L f.K=f:=by rw[<-hk];exact fL f
 rw[az]at B;have b9:=cd f b;have a0:=m_ E;have bb:=cH a0;have b8:=Y.ov;have b1:(bM d:Int)=d.f+1+d.C.length:=by unfold bM;omega
 have a2:ym d=((fD d.type).length:Int)-d.f:=by unfold ym;omega
 have⟨H,L,k0,n0,g0,g1,g2⟩:=VD h (.box (aG f)) (.box (aG m)) zB;obtain⟨_,H1,e1,rfl,k1⟩:=abM g f.N H eg.ds eg.len;rw[ak,bX]at e1;have⟨H2,_,ag,k2,_,p2⟩:=nbD H1 (aQ d) rfl;have⟨_,H3,M,ct,k3⟩:=abL (h:=H2) g inst eg m o_;have l1:=k1.z;have l3:=k3.z;have f1:=((k1.trans k2).kw (h.z+1) o_).trans g1;have f2:=(((k1.trans k2).trans k3).kw (h.z+2) o_).trans g2;have p3:=k3.up p2;have f0:=(((k1.trans k2).trans k3).kw h.z o_).trans g0;have Q:=((k0.trans k1).trans k2).trans k3;have x3:=x.kw (Q.kw w hw);have no:∀(tm:Tm) (J:AH),HK h J->fH QE tm J=some [.agg zT,.bool false]->(∀k,X=some k->∃n,MK.step (Ce g inst) (Wn (Ce g inst) n) f b=some (.stuck f b))->
   Fin QE (λv h'=>HKx w h h'/\∃Z,Cn h' w Z/\StP (Ce g inst) f b c Z (60000+aO (bA f b)+aO m) v) .ret (F_ 113 tm) J:=by
  intro tm J kk G hs;refine cO (.inr rfl) G (ae (jh _) (ae (bp _ _) (aH _))) ⟨kk.x w,X,x.kw (kk.kw w hw),.inl ⟨rfl,λk q=>?_⟩⟩;have⟨d0,L,n0,f0⟩:=Y.up k q;exact⟨d0,L,n0,f0,hs k q⟩
 have t:∀k,X=some k->∃n,∀r,(match cR (Ce g inst) m with
     |none=>some (.stuck f b)
     |some l=>if l.fam=d.N then
       match d.R[l.j]? with
       |none=>some (.stuck f b)
       |some r=>match inst r f.L with
        |none=>some (.stuck f b)
        |some x=>some (.next x (b.take (bM d)++l.fields++b.drop ((bM d+((fD d.type).length:Int)-d.f).toNat+1)))
      else some (.stuck f b))=r->MK.step (Ce g inst) (Wn (Ce g inst) n) f b=r:=by
  intro k q;have⟨d0,L,_⟩:=Y.up k q;have⟨_,n,hn⟩:=Y.ok d0 k L q;refine⟨n,λr G=>?_⟩;rw[B,E];simp only;rw[show Wn (Ce g inst) n a=some m from hn];exact G
 have gZ:∀J:AH,J.get (h.z+2)=some zB->HK h J->HK h (J.set (h.z+2) zB):=λJ _ kk=>kk.set _ o_;have q3:=p3;have au:=p2;unfold aG at L g0 g1 f0 f1;unfold aQ at au q3;unfold zD at ag;rw[aJ m]at M;rw[aJ m,aJ f];simp only[go_sem,aB,<-L,g0,e1,ag,f1];rcases ct with⟨rfl,a9⟩|⟨d2,jn,b5,l,bm,bd,rfl,D,A,hj,bl,b4,bx⟩
 ·have⟨P,q4,o,F,n4,p4⟩:=nbD H3 zDl rfl;have C:=F.up f2;unfold zD zDl at o;unfold zDl at M;simp only[go_sem,M,o,C];exact no _ _ ((Q.trans F).set _ o_) (by simp only[go_sem]<;>rfl) λk q=>by
   have⟨n,hn⟩:=t k q;exact⟨n,hn _ (by rw[a9])⟩
 have⟨P,_,o,F,_,p4⟩:=nbD H3 (aQ d2) rfl;have C:=F.up f2;have s:=F.up q3;have aa:=F.up f0;have ab:=Q.trans F;have m1:¬H3.z=H1.z:=o_;have z:=p4;unfold zD at o;unfold aQ at z;rw[bX]at M;by_cases hn:l.fam=d.N
 ·have dn:decide (d2.N=d.N)=true:=T_ (by rw[<-A];exact hn);have S:=hj;by_cases ay:jn<d.R.length
  ·have dj:decide ((jn:Int)>=(d.R.length:Int))=false:=d_;have⟨r,G⟩:∃r,d.R[jn]?=some r:=⟨_,a_ ay⟩;have⟨tr,_⟩:=dg.R r (m_ G);have⟨nd,_⟩:Nd f.D f.X f.N f.L f.K.length/\gO f.K:=by rw[<-fL f,TOK]at th;exact th
   have vl:=nd.val;have b0:=nd.lev.2.1 hk;have⟨H5,q5,k5,_,g5⟩:∃H5:AH,H5=P.new zB/\HK P H5/\H5.z=P.z+1/\H5.get P.z=some zB:=⟨_,rfl,HK.new _ _,aB _ _,aD _ _⟩;obtain⟨_,H6,e6,⟨j,e,rfl,r1,r2⟩,k6⟩:=WO vl o_ r H5 o_ tr;have l6:=k6.z;have g6:=k6.up g5;have U:=bz g6 j;have⟨u,q7,k7,_,g7⟩:∃u:AH,u=H6.set P.z (.box (aG j))/\HK P u/\u.z=H6.z/\u.get P.z=some (.box (aG j)):=⟨_,rfl,(k5.trans k6).set _ (e_ _),aE _ _ _,aF _ _ _⟩;rw[<-q7]at U;have ac:=k7.up C;have I:=ab.trans k7;have af:=k5.up aa;have ai:=k5.up s;by_cases he:e=0
   ·subst he;have hi:=r1 rfl;have⟨tx,_⟩:=rU vl r j tr hi;have an:=(E_.1 E).1;have a7:bM d<=b.length:=o_;generalize bf:(bM d+((fD d.type).length:Int)-d.f).toNat=i at E an t;have w1:=aW (d.f+1) o_ o_;have w2:IntKind.wrap .i64 (d.f+1+(d.C.length:Int))=((bM d:Nat):Int):=by rw[aW _ o_ o_];omega
    have w3:IntKind.wrap .i64 (d.f+1+(d.C.length:Int)+ym d+1)=((i+1:Nat):Int):=by rw[aW _ o_ o_];omega
    have ax:=BP b a7;have a1:∀(tm:Tm),nth tm 90=.I ((i+1:Nat):Int)->fb 5 (.eT b) tm (some (.t 90)) none=some (.eT (b.drop (i+1))):=λtm q=>BO b q o_;have al:=k7.up s;have⟨HA,qA,kA,_,gA⟩:∃HA:AH,HA=u.new zB/\HK u HA/\HA.z=u.z+1/\HA.get u.z=some zB:=⟨_,rfl,HK.new _ _,aB _ _,aD _ _⟩;obtain⟨_,HB,eB,rfl,kB⟩:=c74 j (b.take (bM d)) HA (by rw[Y_];omega);have lB:=kB.z;have gB:=kB.up gA;have ad:=bz gB (bA j (b.take (bM d)));have⟨R,qC,kC,_,gC⟩:∃R:AH,R=HB.set u.z (.box (aG (bA j (b.take (bM d)))))/\HK u R/\R.z=HB.z/\R.get u.z=some (.box (aG (bA j (b.take (bM d))))):=⟨_,rfl,(kA.trans kB).set _ (e_ _),aE _ _ _,aF _ _ _⟩;rw[<-qC]at ad;obtain⟨_,HD,eD,rfl,V⟩:=c74 (bA j (b.take (bM d))) l.fields R o_;have ah:aO (bA (bA j (b.take (bM d))) l.fields)=aO j+ba (b.take (bM d))+(b.take (bM d)).length+ba l.fields+l.fields.length:=by rw[cd,cd]
    have a6:=dR (b.take (bM d)) (b.drop (bM d));rw[j_]at a6;have be:=kY _ m (e_ _);have bi:aO (bA (bA j (b.take (bM d))) l.fields)<=400000000000:=by rw[ah,Y_];omega
    have xD:Cn HD w X:=x3.kw (V.up (kC.up (k7.up (F.kw w o_))));obtain⟨_,HE,eE,rfl,kE,Z,xE,fm⟩:=FL (bA (bA j (b.take (bM d))) l.fields) o_ 0 xD (by have:=I.z;have:=kC.z;have:=V.z;omega);obtain⟨_,HF,eF,rfl,kF⟩:=WN (h:=HE) d av o_ aw o_;obtain⟨_,_,eG,rfl,kG⟩:=c74 (bA (bA j (b.take (bM d))) l.fields) (b.drop (i+1)) HF (by rw[List.length_drop];omega);have lD:=V.z;have lE:=kE.z;have lF:=kF.z;have lG:=kG.z;have br:=I.z;have ar:=kG.up (kF.up (kE.up (V.up (kC.up ac))));have ap:=kA.up g7;have a8:=kA.up al;have aq:=kE.up (V.up (kC.up (k7.up (F.up p3))));have O:=cE (sz:=23) aq rfl;have aj:=kC.up (k7.up (F.up p3));have ao:=cE (sz:=23) aj rfl;have am:=cE (sz:=23) (V.up aj) rfl;unfold aG at g7 ap gC;rw[aJ j]at eB;rw[aJ (bA j (b.take (bM d)))]at eD;unfold aQ at aq O ao am;rw[bX]at eF;unfold aQ at eF;have a3:=bz ar (bA (bA (bA j (b.take (bM d))) l.fields) (b.drop (i+1)));simp only[go_sem,M,o,z,s,dn,dj,<-q5,G,af,ai,e6,U,<-qA,ap,a8,w1,w2,ax,eB,ad,gC,eD,eE,O,ao,am,eF,w3,a1,eG,a3];refine cO (.inr rfl) (a:=.agg (aG (bA (bA (bA j (b.take (bM d))) l.fields) (b.drop (i+1))))) (by simp only[go_sem,aG]<;>rfl) (ae (jc (jt (dH _) (ei _)) _) (ae (bp _ _) (aH _))) ⟨?_,Z,?_,.inr ⟨_,rfl,?_,?_,?_⟩⟩
    ·exact((((((I.trans kC).trans V).x w).trans kE).trans ((kF.trans kG).x w))).set _ (.inl o_)
    ·exact xE.kw ((aA o_).trans (kG.up (kF.kw w o_)))
    ·have tf:∀y∈l.fields,TOK y:=λy hy=>(oO _ m (e_ _) Y.tok).2.1 y (rA D y hy);exact ij (ij (ij tx λy hy=>ta y (List.mem_of_mem_take hy)) tf) λy hy=>ta y (List.mem_of_mem_drop hy)
    ·rw[cd,ah];have e1:=dR (b.take i) (b.drop i);rw[j_,rW E,ba]at e1;have e0:(b.take i).take (bM d)=b.take (bM d):=by rw[List.take_take,Nat.min_eq_left o_]
     have e2:=dR ((b.take i).take (bM d)) ((b.take i).drop (bM d));rw[j_,e0]at e2;simp only[Y_,List.length_drop];omega
    intro d' q;have⟨k,q1,_,_,_,_⟩:=fm.up q;have⟨d0,L,_,_⟩:=Y.up k q1;have⟨_,_⟩:=Y.ok d0 k L q1;have⟨n,p⟩:=t k q1;have hp:=bI (bA (bA j (b.take (bM d))) l.fields);refine⟨d0,L,o_,o_,?_,n,j,b.take (bM d)++l.fields++b.drop (i+1),p _ ?_,by rw[sV,sV]⟩
    ·rw[cd _ (b.drop (i+1))];have e1:=dR (b.take (i+1)) (b.drop (i+1));rw[j_]at e1;rw[List.length_drop];omega
    rw[D];simp only;rw[P_ hn,S,G];simp only;rw[show inst r f.L=some j from hi]
   have de:=D_ he;simp only[go_sem,M,o,z,s,dn,dj,<-q5,G,af,ai,e6,U,de,ac];exact no _ _ (I.set _ o_) (by simp only[go_sem]<;>rfl) λk q=>by
    have⟨n,p⟩:=t k q;refine⟨n,p _ ?_⟩;rw[D];simp only;rw[P_ hn,S,G];simp only;rw[show inst r f.L=none from r2 he]
  have dj:decide ((jn:Int)>=(d.R.length:Int))=true:=t_;simp only[go_sem,M,o,z,s,dn,dj,C];exact no _ _ (ab.set _ o_) (by simp only[go_sem]<;>rfl) λk q=>by
   have⟨n,p⟩:=t k q;refine⟨n,p _ ?_⟩;rw[D];simp only;rw[P_ hn,S,S_ o_]
 have dn:decide (d2.N=d.N)=false:=D_ (by rw[<-A];exact hn);simp only[go_sem,M,o,z,s,dn,C];exact no _ _ (ab.set _ o_) (by simp only[go_sem]<;>rfl) λk q=>by
  have⟨n,p⟩:=t k q;exact⟨n,p _ (by rw[D];exact N_ hn)⟩
end
def P33 (K:aN)(a:List DV)(N:Nat):Prop:=∀(t:T) (c:Option CT) (h:AH) (w:Nat),TOK t->Cn h w c->w<h.z->(∀d,c=some d->(aO t:Int)+2*(2000-d.n)<=N)->
 Rt K (33) [.eD a,enc t,.P w] h λv h'=>∃b e,v=enc b/\HKx w h h'/\Cn h' w e/\WR (Ce a inst) N t b c e
def LfP (C:MK.Cx)(N:Nat)(b:gK)(c:List T)(g:Option CT)(v:AV):Prop:=
 (∃e,v=.tup [enc zero,.ls [],.bool false,enc e]/\∀f,g=some f->∃n,mtT C (Wn C n) b c=some none)\/
 (∃a d,v=.tup [enc a,.eT d,.bool true,enc zero]/\TOK a/\aO a<50000/\(∀x∈d,TOK x)/\d.length<=20016/\
  ∀f,g=some f->(∀x∈d,(aO x:Int)+2*(2000-f.n)<=N)/\∃n,mtT C (Wn C n) b c=some (some (a,d)))
abbrev zTR:dF:=.box [.I 0,.I 0,.I 0,.str (bs []),.nl,.nl,.I 0,.nl]
section
variable {K:aN}{h:AH}{w:Nat}
theorem c1114 [RunsM K]{Z:List DV}(eg:Eg Z)(hN:N<=20000)(hW:P33 K Z N){b:gK}{n0:Nat}(tr:Ke b n0){vars:List T}(tv:∀x∈vars,TOK x)(hl:vars.length+400*n0<=20016)
  (hm:∀d,c=some d->∀x∈vars,(aO x:Int)+2*(2000-d.n)<=N) (x:Cn h w c) (hw:w<h.z) :
  Rt K (114) [.eD Z,.agg (bc b),.eT vars,.P w] h λv h'=>HKx w h h'/\∃s,Cn h' w s/\Up c s/\LfP (Ce Z inst) N b vars s v:=by
 refine aV aeZ ?_;let C:=Ce Z inst
 have⟨H,q0,Y,n1,Q,g1,g2⟩:=VD h (.box (bc b)) zB zB;have⟨V,H1,e1,o1,n2,k1,r1,r2⟩:=acr (out:=[]) (cV (h.z+3) 5 true H) o_ vars (by simp;omega);rw[List.nil_append]at o1;have bd:=uO o1;have⟨f,am⟩:∃p,p=H1.z:=⟨_,rfl⟩;have⟨U,J,z,n3,G⟩:∃U:AH,U=(H1.new zB).set f zB/\HK H1 U/\U.z=f+1/\U.get f=some zB:=⟨_,rfl,(HK.new _ _).set _ o_,by rw[aE,aB,am],aF _ _ _⟩;have bx:=vW (h:=h) (bc b) 8 rfl;unfold ach;simp only[go_sem,bx,aB,<-q0,GG,GH,e1,LC];simp only[<-am];rw[<-J];have a4:HK h U:=⟨o_,λa ha=>z.up ((k1 a o_).trans (Y.kw a ha))⟩;have f1:U.get (h.z+1)=some zB:=z.up ((k1 _ o_).trans g1);have f2:U.get (h.z+2)=some zB:=z.up ((k1 _ o_).trans g2);have o2:Own (h.z+3) 5 true U V (vars.map enc):=bP o1 z.z λa _ ha=>z.kw a ha;have dl:h.z+3<=f:=o_;have ai:∀k g n,V=.row k g 5 0 n->k≠f:=λk g n e=>by have:=bd k g n e;omega
 have no:∀(tm:Tm) (H':AH) (s:Option CT) (X:List AV) (aj:T),HKx w h H'->Cn H' w s->Up c s->(∀H,cw (.agg X) H=(enc aj,H))->fH AN tm H'=some [.agg zT,.nl,.bool false,.agg X]->(∀R,s=some R->∃n,mtT C (Wn C n) b vars=some none)->
   Fin AN (λv h'=>HKx w h h'/\∃s,Cn h' w s/\Up c s/\LfP C N b vars s v) .ret (F_ 114 tm) H':=λtm H' s X aj kk xx up ak hr hs=>
  cO (.inr rfl) hr (ae (jh _) (ae (dL _) (ae (bp _ _) (ae (ak _) (aH _))))) ⟨kk,s,xx,up,.inl ⟨aj,rfl,hs⟩⟩
 simp only[go_sem,LD];refine bo (λj fr H=>∃tm t n V out s X,n=j/\fr=F_ 114 tm/\nth tm 0=.eD Z/\nth tm 3=.P w/\nth tm 5=.P h.z/\nth tm 8=.P (h.z+1)/\nth tm 11=.P (h.z+2)/\nth tm 12=V/\nth tm 13=.P f/\
  H.get h.z=some (.box (bc t))/\H.get (h.z+1)=some zB/\H.get (h.z+2)=some zB/\H.get f=some (.box X)/\(X=zT\/∃u,X=aG u)/\Own (h.z+3) 5 true H V (out.map enc)/\(∀k g n,V=.row k g 5 0 n->k≠f)/\Ke t n/\(∀x∈out,TOK x)/\out.length+400*n<=20016/\HKx w h H/\f<H.z/\Cn H w s/\Up c s/\
  ∀R,s=some R->(∀x∈out,(aO x:Int)+2*(2000-R.n)<=N)/\∃Y,∀k,Y<=k->mtT C (Wn C k) b vars=mtT C (Wn C k) t out) n0 o_
  ⟨_,b,n0,V,vars,c,_,rfl,rfl,k_,k_,k_,k_,k_,k_,k_,?_,f1,f2,G,.inl rfl,o2,ai,tr,tv,hl,a4.x w,o_,x.kw (a4.kw w hw),Up.refl c,λR q=>⟨hm R q,0,λk _=>rfl⟩⟩ ?_
 ·exact z.up ((k1 _ o_).trans Q)
 clear r2 q0 Y n1 Q g1 g2 e1 o1 n2 k1 r1 bd am J z n3 G a4 f1 f2 o2 ai H H1 U V bx;rintro j fr H ⟨tm,t,n,V,out,s,X,rfl,rfl,t0,t3,t5,F,i,P,B,Q,g1,g2,G,an,o,ai,cf,ay,di,kk,nx,xc,up,a6⟩;have⟨b5,cc,cs,a9⟩:=zc cf;have⟨_,_,_,bN,gw,hb⟩:=oA xc;have kn:=kk.z;have w1:¬h.z+1=w:=o_;have w2:¬h.z+2=w:=o_;have n5:¬h.z+1=h.z:=o_;have n6:¬h.z=h.z+1:=o_;have cn:=Q;unfold bc fS at Q;unfold ctB at gw;have⟨_,_,_⟩:=jD o;have A:=λH=>(Bl.of o).len H;unfold Nl;simp only[go_sem,t5,Q];by_cases hk:lV t=1
 ·have d0:=T_ hk;have br:∀k,mtT C (Wn C k) t out=if 0<=eW t then
    match out[(eW t).toNat]? with
    |none=>some none
    |some x=>match Wn C k x with
     |none=>none
     |some c=>match cR C c with
      |none=>some none
      |some d=>mtB C (Wn C k) (cm t) d.N (out++d.fields)
   else some none:=λk=>sE _ _ _ _ hk
  have bq:∀r,(∃Y,∀k,Y<=k->mtT C (Wn C k) t out=some r)->∀R,s=some R->∃n,mtT C (Wn C n) b vars=some r:=by
   rintro r ⟨Y,cq⟩ R q;have⟨_,k1,m2⟩:=a6 R q;exact⟨max Y k1,by rw[m2 _ (Nat.le_max_right _ _)];exact cq _ (Nat.le_max_left _ _)⟩
  by_cases S:eW t<0\/(out.length:Int)<=eW t\/bN=true
  ·have E:¬h.z+2=h.z+1:=o_;have n8:¬h.z+1=h.z+2:=o_;have n9:¬f=h.z+1:=o_;have de:¬h.z+1=f:=o_;have hs:∀R,s=some R->∃n,mtT C (Wn C n) b vars=some none:=by
    intro R q;refine bq none ⟨0,λk _=>?_⟩ R q;rw[br k];by_cases h0:eW t<0
    ·rw[N_ o_]
    rw[P_ o_];rcases hb with⟨rfl,rfl⟩|⟨rfl,_⟩
    ·cases q
    rw[S_ (by
      have:(out.length:Int)<=eW t:=S.elim (λq=>absurd q h0) λq=>q.elim id λq=>(by cases q);omega)]
   have fin:∀(tm:Tm) (X:List AV) (u:T),(∀H,cw (.agg X) H=(enc u,H))->fH AN tm ((H.set (h.z+1) zB).set (h.z+2) (.box X))=some [.agg zT,.nl,.bool false,.agg X]->
     Fin AN (λv h'=>HKx w h h'/\∃s,Cn h' w s/\Up c s/\LfP C N b vars s v) .ret (F_ 114 tm) ((H.set (h.z+1) zB).set (h.z+2) (.box X)):=λtm X u ak hr=>
    no tm _ s X u ((kk.set _ (.inl o_)).set _ (.inl o_)) (xc.kw (by rw[aA o_,aA o_])) up ak hr hs
   have cz:∀H,cw (.agg zT) H=(enc zero,H):=λH=>jh H;have cu:∀(u:T) H,cw (.agg (aG u)) H=(enc u,H):=λu H=>jc (jt (dH _) (ei _)) H;unfold aG at an cu;by_cases h1:eW t<0
   ·have l:=T_ h1;rcases an with rfl|⟨u,rfl⟩
    ·simp only[go_sem,d0,l,t5,Q,B,G,F,g1,i,E,n9,g2];exact fin _ _ _ cz (by simp only[go_sem,F,i,n8]<;>rfl)
    simp only[go_sem,d0,l,t5,Q,B,G,F,g1,i,E,n9,g2];exact fin _ _ u (cu u) (by simp only[go_sem,F,i,n8]<;>rfl)
   have l:=D_ h1;by_cases h2:(out.length:Int)<=eW t
   ·have d2:=T_ h2;rcases an with rfl|⟨u,rfl⟩
    ·simp only[go_sem,d0,l,d2,P,A,t5,Q,B,G,F,g1,i,E,n9,g2];exact fin _ _ _ cz (by simp only[go_sem,F,i,n8]<;>rfl)
    simp only[go_sem,d0,l,d2,P,A,t5,Q,B,G,F,g1,i,E,n9,g2];exact fin _ _ u (cu u) (by simp only[go_sem,F,i,n8]<;>rfl)
   have d2:=D_ h2;have ci:bN=true:=S.elim (λq=>absurd q h1) λq=>q.elim (λq=>absurd q h2) id;subst ci;rcases an with rfl|⟨u,rfl⟩
   ·simp only[go_sem,d0,l,d2,t3,gw,P,A,t5,Q,B,G,F,g1,i,E,n9,g2];exact fin _ _ _ cz (by simp only[go_sem,F,i,n8]<;>rfl)
   simp only[go_sem,d0,l,d2,t3,gw,P,A,t5,Q,B,G,F,g1,i,E,n9,g2];exact fin _ _ u (cu u) (by simp only[go_sem,F,i,n8]<;>rfl)
  have h1:¬eW t<0:=λq=>S (.inl q);have h2:¬(out.length:Int)<=eW t:=λq=>S (.inr (.inl q));have l:=D_ h1;have d2:=D_ h2;rcases hb with⟨rfl,_⟩|⟨rfl,dd,rfl,b8,rfl,rfl,rfl⟩
  ·cases S (.inr (.inr rfl))
  have⟨bk,Y,m2⟩:=a6 dd rfl;have⟨v,hv⟩:∃v:Nat,eW t=v:=⟨(eW t).toNat,o_⟩;have av:v<out.length:=o_;have⟨xT,ao⟩:∃xT,out[v]?=some xT:=⟨_,a_ av⟩;have bf:=m_ ao;have⟨_,ia,ld⟩:=(Bl.of o).get ao;have ch:=bk xT bf;have dc:=b8.n1;obtain⟨_,H1,e1,u,c1,rfl,k1,x1,wr⟩:=hW xT (some dd) H w (ay xT bf) xc o_ (λd q=>by cases q;exact ch);have l1:=k1.z;have b4:X.length=5:=by rcases an with rfl|⟨u,rfl⟩<;>rfl
  have al:cY (.P f) H1 5 (enc u)=some (H1.set f (.box (aG u))):=by rw[aJ];exact aS ((k1.kw f nx o_).trans G) (vs:=aG u) (sz:=5) b4 rfl
  have⟨U,J,z,_,I⟩:∃U:AH,U=H1.set f (.box (aG u))/\(∀a,a≠f->U.get a=H1.get a)/\U.z=H1.z/\U.get f=some (.box (aG u)):=⟨_,rfl,λa ha=>aA ha,aE _ _ _,aF _ _ _⟩;rw[<-J]at al;have dj:=wr.ov;have⟨_,H3,e3,ct,k3⟩:=abL (h:=U) Z inst eg u o_;have l3:=k3.z;have D:∀a,a<H.z->a≠w->a≠f->H3.get a=H.get a:=λa q1 J q3=>k3.up ((z a q3).trans (k1.kw a q1 J));have bg:HKx w h H3:=⟨o_,λa ha q=>(D a o_ q o_).trans (kk.kw a ha q)⟩;have x3:Cn H3 w c1:=x1.kw (k3.up (z w o_));have b3:=up.trans wr.up;have a0:H3.get h.z=some (.box (bc t)):=(D _ o_ o_ o_).trans cn;have a1:H3.get (h.z+1)=some zB:=(D _ o_ o_ o_).trans g1;have a2:H3.get (h.z+2)=some zB:=(D _ o_ o_ o_).trans g2;have a8:=k3.up I;have o3:Own (h.z+3) 5 true H3 V (out.map enc):=Ch o o_ λk g n e q1 J=>D k J o_ (ai k g n e);have ap:∀l,c1=some l->∃z,Y<=z/\∀k,z<=k->mtT C (Wn C k) b vars=match cR C u with
     |none=>some none
     |some d=>mtB C (Wn C k) (cm t) d.N (out++d.fields):=by
   intro l q;have⟨_,n1,cg⟩:=wr.ok dd l rfl q;refine⟨max Y n1,Nat.le_max_left _ _,λk hk=>?_⟩;rw[m2 k o_,br k,P_ o_,show(eW t).toNat=v by omega,ao];simp only;rw[show Wn C k xT=some u from xI o_ cg]
  have cu:∀(u:T) H,cw (.agg (aG u)) H=(enc u,H):=λu H=>jc (jt (dH _) (ei _)) H;have E:¬h.z+2=h.z+1:=o_;have n8:¬h.z+1=h.z+2:=o_;have n9:¬f=h.z+1:=o_;have a5:∀(tm:Tm) (H':AH),HK H3 H'->fH AN tm ((H'.set (h.z+1) zB).set (h.z+2) (.box (aG u)))=some [.agg zT,.nl,.bool false,.agg (aG u)]->(∀R,c1=some R->∃n,mtT C (Wn C n) b vars=some none)->
    Fin AN (λv h'=>HKx w h h'/\∃s,Cn h' w s/\Up c s/\LfP C N b vars s v) .ret (F_ 114 tm) ((H'.set (h.z+1) zB).set (h.z+2) (.box (aG u))):=λtm H' k' hr hs=>
   no tm _ c1 (aG u) u (((bg.trans (k'.x w)).set _ (.inl o_)).set _ (.inl o_)) (x3.kw (by rw[aA o_,aA o_];exact k'.kw w o_)) b3 (cu u) hr hs
  rw[hv]at l d2 Q;have ag:=a8;unfold aG at ag I;rw[aJ u]at e3;rcases ct with⟨rfl,co⟩|⟨d9,jn,O,dv,cr,bi,rfl,bb,ck,hj,ca,c5,dm⟩
  ·have⟨H4,q4,ac,k4,n4,p4⟩:=nbD H3 zDl rfl;have aq:=k4.up ag;have b1:=k4.up a1;have b2:=k4.up a2;unfold zD zDl at ac;unfold zDl at e3;simp only[go_sem,d0,l,d2,t3,gw,t0,P,A,t5,Q,vH,ia,ld,e1,B,al,vI,I,e3,ac,vJ,aq,F,b1,i,E,n9,b2];exact a5 _ H4 k4 (by simp only[go_sem,F,i,n8,aG]<;>rfl) λl q=>by
    have⟨z,_,aa⟩:=ap l q;exact⟨z,by rw[aa z (e_ _),co]⟩
  have⟨H4,_,ac,k4,_,p4⟩:=nbD H3 (aQ d9) rfl;have dg:=eg.dg d9 cr;have ic:=aR encCt_len bi .i64;have ax:=faddr_cN O;have a3:∀h,cC (.vp (.str O.N)) h false 1=some (.str O.N):=λ_=>rfl;have⟨HA,qA,kA,_,gA⟩:∃HA:AH,HA=H4.new zTR/\HK H4 HA/\HA.z=H4.z+1/\HA.get H4.z=some zTR:=⟨_,rfl,HK.new _ _,aB _ _,aD _ _⟩;obtain⟨_,H5,e5,rfl,k5⟩:=c1155 (h:=HA) t O.N cs;have l5:=k5.z;have bm:=k5.up gA;have b0:=k4.up a0;have cb:=kA.up b0;have ar:=kA.up p4;have dk:=(k4.trans kA).trans k5;have bw:jb O=.agg (oK O):=rfl;rw[bw]at ic;have aw:∀l,c1=some l->∃z,Y<=z/\∀k,z<=k->mtT C (Wn C k) b vars=match chs O.N (cm t) with
    |none=>some none
    |some (ab,t')=>if ab then some none else mtT C (Wn C k) t' (out++dv.fields):=by
   intro l q;have⟨z,q1,J⟩:=ap l q;refine⟨z,q1,λk hk=>?_⟩;rw[J k hk,bb];simp only;rw[Ej,ca];cases chs O.N (cm t)<;>rfl
  have au:=cE (sz:=8) b0 rfl;have ad:=cE (sz:=8) cb rfl;rw[bX]at e3;unfold zD at ac;unfold aQ at p4 ar;unfold bc fS at au ad e5;cases ah:chs O.N (cm t) with
  |none=>
   have W:=aS bm (vs:=[.I 0,.I 0,.I 0,.str (bs []),.ls [],.ls [],.I 0,.ls []]) (sz:=8) rfl rfl;have⟨H6,q6,k6,n6⟩:∃H6:AH,H6=H5.set H4.z (.box [.I 0,.I 0,.I 0,.str (bs []),.ls [],.ls [],.I 0,.ls []])/\HK H4 H6/\H6.z=H5.z:=⟨_,rfl,(kA.trans k5).set _ (e_ _),aE _ _ _⟩;rw[<-q6]at W;have aq:=((k4.trans k6).kw f o_).trans ag;have b1:=((k4.trans k6).kw (h.z+1) o_).trans a1;have b2:=((k4.trans k6).kw (h.z+2) o_).trans a2;rw[ah]at e5;unfold chV at e5;simp only[go_sem,d0,l,d2,t3,gw,t0,P,A,t5,Q,vH,ia,ld,e1,B,al,vI,I,e3,ac,vJ,zm,<-qA,ad,ar,ic,ax,a3,e5,W,zn,aq,F,b1,i,E,n9,b2];exact a5 _ H6 (k4.trans k6) (by simp only[go_sem,F,i,n8,aG]<;>rfl) λl q=>by
    have⟨z,_,aa⟩:=aw l q;exact⟨z,by rw[aa z (e_ _),ah]⟩
  |some q=>
   have⟨ab,t'⟩:=q;obtain⟨n',rfl,bl⟩:=KE a9 ah;have W:=aS bm (vs:=bc t') (sz:=8) rfl rfl;have⟨H6,q6,k6,_,g6⟩:∃H6:AH,H6=H5.set H4.z (.box (bc t'))/\HK H4 H6/\H6.z=H5.z/\H6.get H4.z=some (.box (bc t')):=⟨_,rfl,(kA.trans k5).set _ (e_ _),aE _ _ _,aF _ _ _⟩;rw[<-q6]at W;have M:=k4.trans k6;have aq:=M.up ag;have b1:=M.up a1;have b2:=M.up a2;have b9:=M.up a0;rw[ah]at e5;unfold chV at e5;cases ab with
   |true=>
    unfold bc fS at W;unfold bc fS at e5;simp only[go_sem,d0,l,d2,t3,gw,t0,P,A,t5,Q,vH,ia,ld,e1,B,al,vI,I,e3,ac,vJ,zm,<-qA,ad,ar,ic,ax,a3,e5,W,zn,aq,F,b1,i,E,n9,b2];exact a5 _ H6 M (by simp only[go_sem,F,i,n8,aG]<;>rfl) λl q=>by
     have⟨z,_,aa⟩:=aw l q;exact⟨z,by rw[aa z (e_ _),ah];rfl⟩
   |false=>
    have bv:=cE (sz:=8) g6 rfl;have az:=aS b9 (vs:=bc t') (sz:=8) rfl rfl;have⟨H7,q7,k7,_,g7⟩:∃H7:AH,H7=H6.set h.z (.box (bc t'))/\(∀a,a≠h.z->H7.get a=H6.get a)/\H7.z=H6.z/\H7.get h.z=some (.box (bc t')):=⟨_,rfl,λa ha=>aA ha,aE _ _ _,aF _ _ _⟩;rw[<-q7]at az;have c8:=M.z;have o7:Own (h.z+3) 5 true H7 V (out.map enc):=bP o3 o_ λa q1 J=>(k7 a o_).trans (M.kw a J);have cx:=uO o3;have⟨V',H8,e8,o8,_,k8,r8,f8⟩:=acr o7 o_ dv.fields o_;have⟨_,_,_⟩:=jD o8;have tf:∀y∈dv.fields,TOK y:=λy hy=>(oO _ u (e_ _) wr.tok).2.1 y (rA bb y hy);unfold bc fS at W az bv;unfold bc fS at e5;simp only[go_sem,d0,l,d2,t3,gw,t0,P,A,t5,Q,vH,ia,ld,e1,B,al,vI,I,e3,ac,vJ,zm,<-qA,ad,ar,ic,ax,a3,e5,W,zn,LG,bv,az,e8];have a7:∀a,a<H3.z->a≠h.z->(∀g n,V≠.row a g 5 0 n)->H8.get a=H3.get a:=λa q1 J q3=>(f8 a o_ q3).trans ((k7 a J).trans (M.kw a q1));have af:∀a,a<h.z+3->a≠h.z->H8.get a=H3.get a:=λa q1 J=>(k8 a q1).trans ((k7 a J).trans (M.kw a o_));refine⟨n',o_,_,t',n',V',out++dv.fields,c1,aG u,rfl,rfl,q_ t0,q_ t3,q_ t5,q_ F,q_ i,k_,q_ B,(k8 _ o_).trans g7,(af _ o_ o_).trans a1,(af _ o_ o_).trans a2,(a7 f o_ o_ λg n e=>ai _ g n e rfl).trans a8,.inr ⟨u,rfl⟩,o8,λk g n e=>?_,bl,λy hy=>?_,by rw[H_];omega,⟨o_,λa ha q=>(af a o_ o_).trans (bg.kw a ha q)⟩,o_,x3.kw (af w o_ o_),b3,λl q=>?_⟩
    ·rcases r8 k g n e with q|⟨g',m,q⟩
     ·omega
     exact ai k g' m q
    ·rcases List.mem_append.1 hy with q|q
     ·exact ay y q
     exact tf y q
    have⟨z,_,aa⟩:=aw l q;refine⟨λy hy=>?_,z,λk hk=>?_⟩
    ·have⟨_,_⟩:=wr.ok dd l rfl q;have⟨_,e',_,_⟩:=wr.up l q;cases e';rcases List.mem_append.1 hy with J|J
     ·have:=bk y J;omega
     have:=cH J;omega
    rw[aa k hk,ah];rfl
 have d0:=D_ hk;have E:¬h.z+2=h.z+1:=o_;have n8:¬h.z+1=h.z+2:=o_;simp only[go_sem,d0,LF,t5,Q,P,F,g1,i,g2,E];have⟨HF,qF,kF,nF⟩:∃HF:AH,HF=(H.set (h.z+1) (.box [.I (fV t).D,.I (fV t).X,.str (fV t).N,.eL (fV t).L,.eT (fV t).K])).set (h.z+2) zB/\(∀a,(a<h.z\/h.z+3<=a)->HF.get a=H.get a)/\HF.z=H.z:=⟨_,rfl,λa ha=>by rw[aA o_,aA o_],by simp only[aE]⟩;have⟨H5,e5,n5,k5,_⟩:=(Bl.of (bP (h':=HF) o o_ λa ha _=>kF a o_)).can0;refine cO (l':=[enc (fV t),.eT out,.bool true,enc zero]) (h3:=H5) (.inr rfl) (a:=.agg (aG (fV t))) (b:=V) (l:=[.bool true,.agg zT]) (by simp only[go_sem,F,i,n8,aG]<;>rfl) ?_ ⟨⟨by rw[n5,nF];exact kk.z,λa ha q=>(k5 a o_).trans ((kF a o_).trans (kk.kw a ha q))⟩,s,xc.kw ((k5 w o_).trans (kF w o_)),up,.inr ⟨fV t,out,rfl,b5,cc,ay,o_,λR q=>?_⟩⟩
 ·rw[<-qF];exact ae (jc (jt (dH _) (ei _)) _) (ae e5 (ae (bp _ _) (ae (jh _) (aH _))))
 have⟨m1,Y,m2⟩:=a6 R q;exact⟨m1,Y,by rw[m2 Y (e_ _)];exact Hg _ _ _ _ hk⟩
end
def nbE (h:AH)(a:List AV)(b:a.length=9):∃H,H=(h.new (.box zE)).set h.z (.box a)/\cY (.P h.z) (h.new (.box zE)) 9 (.agg a)=some H/\HK h H/\H.z=h.z+1/\H.get h.z=some (.box a):=
 ⟨_,rfl,aS (aD _ _) rfl b,(HK.new _ _).set _ (e_ _),by rw[aE,aB],aF _ _ _⟩
def zF:List AV:=[.str (bs []),.I 0,.I 0,.str (bs []),.nl,.nl,.I 0,.I 0,.I 0,.I 0,.str (bs []),.nl,.nl,.I 0,.nl]
def nbF (h:AH)(a:List AV)(b:a.length=15):∃H,H=(h.new (.box zF)).set h.z (.box a)/\cY (.P h.z) (h.new (.box zF)) 15 (.agg a)=some H/\HK h H/\H.z=h.z+1/\H.get h.z=some (.box a):=
 ⟨_,rfl,aS (aD _ _) rfl b,(HK.new _ _).set _ (e_ _),by rw[aE,aB],aF _ _ _⟩
section
variable {K:aN}{h:AH}{w:Nat}
structure J72 (hT:T)(d:DV)(e:EV)(p10 p12:Nat)(h0 h:AH):Prop where
 hk:HK h0 h
 g5:h.get h0.z=some (.box (aG hT))
 g8:h.get (h0.z+1)=some zB
 g10:h.get p10=some (.box (aY e))
 g12:h.get p12=some (.box (aQ d))
 lt:h0.z+2<=p10/\p10<p12/\p12<h.z
def J72.up {d:DV}{b a:Nat}{c:AH}(J:J72 f d e b a c h)(k:HK h h'):J72 f d e b a c h':=by
 have:=J.lt;exact⟨J.hk.trans k,k.up J.g5,k.up J.g8,k.up J.g10,k.up J.g12,by have:=k.z;omega⟩
def P72 (_K:aN)(b:List DV)(N:Nat)(e:T)(a:List T)(d:CT)(w:Nat)(h:AH)(v:AV)(h':AH):Prop:=HKx w h h'/\∃c,Cn h' w c/\StP (Ce b inst) e a (some d) c (aO (bA e a)+100000+200000*N) v
def VB {b:List DV}{e:T}{a:List T}(x:Cn h w (some d))(i:w<h.z)(tm:Tm)(c:AH)(f:HK h c)(g:fH vY tm c=some [.agg zT,.bool false])(hs:∃n,MK.step (Ce b inst) (Wn (Ce b inst) n) e a=some (.stuck e a)):
  Fin vY (P72 K b N e a d w h) .ret (F_ 72 tm) c:=
 cO (.inr rfl) g (ae (jh _) (ae (bp _ _) (aH _))) ⟨f.x w,some d,x.kw (f.kw w i),.inl ⟨rfl,λj q=>by cases q;exact⟨d,rfl,Int.le_refl _,Int.le_refl _,hs⟩⟩⟩
theorem agf [RunsM K]{c:List DV}(eg:Eg c){a:T}{b:List T}(Q:TOK a)(hk:a.D=3)(ta:∀x∈b,TOK x)(x:Cn h w (some d))(P:w<h.z)(ab:aO (bA a b)<=100000){k:DV}{o:Nat}(J:J72 a k e o n h H)
  (dm:k∈c) (y:k.D=1) (he:e.D=1) (hc:oD c a.N a.L.length=.dfn k.v) 
  (t3:nth tm 3=.P w) (t2:nth tm 2=.eT b) (O:nth tm 5=.P h.z) (u:nth tm 8=.P (h.z+1)) (p:nth tm 10=.P o) (t:nth tm 12=.P n) :
  R_ K [.code iu] (Fin vY (P72 K c N a b d w h)) .normal (F_ 72 tm) H:=by
 have dg:=eg.dg k dm;have⟨U,_⟩:=dg.v y;have⟨nd,_⟩:Nd a.D a.X a.N a.L a.K.length/\gO a.K:=by rw[<-fL a,TOK]at Q;exact Q
 have ad:=nd.lev.2.1 hk;have E:T.mk 3 a.X a.N a.L a.K=a:=by rw[<-hk];exact fL a
 have C:(Ce c inst).cst a.N a.L.length=_:=hc;have f:=λW=>Gv C W a.X a.K b;rw[E]at f;have⟨M,B,g8,j,l,_,_,_⟩:=J;have kn:=M.z;have af:=cd a b;obtain⟨_,H1,A,⟨i,L,rfl,r1,r2⟩,G⟩:=WO nd.val o_ k.v H o_ U;have l1:=G.z;have⟨H2,_,s,I,_,S⟩:=oN H1 i;have g:=(M.trans G).trans I;have r:=((G.trans I).kw (h.z+1) o_).trans g8;unfold aG at B S;unfold aQ at l;unfold aY at j;rw[he]at j;rw[aJ]at A;by_cases m:L=0
 ·subst m;have hi:=r1 rfl;have⟨tx,_⟩:=rU nd.val k.v i U hi;obtain⟨_,V,e3,rfl,F,c',Y,fm⟩:=FL (h:=H2) i o_ 0 (x.kw (g.kw w P)) (by have:=g.z;omega);obtain⟨_,_,e4,rfl,v⟩:=c74 i b V o_;have l3:=F.z;have l4:=v.z;have z:=v.up (F.up r);have D:=bz z (bA i b);simp only[go_sem,iu,p,j,t,l,O,B,A,s,t3,S,e3,t2,<-aJ i,e4,u,D];refine cO (.inr rfl) (a:=.agg (aG (bA i b))) (by simp only[go_sem,u,aG]<;>rfl) (ae (jc (jt (dH _) (ei _)) _) (ae (bp _ _) (aH _))) ⟨?_,c',?_,.inr ⟨_,rfl,ij tx ta,by rw[cd];omega,λd' q=>?_⟩⟩
  ·exact(((g.x w).trans F).trans (v.x w)).set _ (.inl o_)
  ·exact Y.kw ((aA o_).trans (v.kw w (by have:=g.z;omega)))
  have⟨_,q1,_,_,_,_⟩:=fm.up q;have hp:=bI i;have aa:=bI a;cases q1;exact⟨d,rfl,o_,o_,by rw[cd i];omega,0,i,b,by rw[f,show(Ce c inst).inst k.v a.L=some i from hi],rfl⟩
 have Z:=D_ m;simp only[go_sem,iu,p,j,t,l,O,B,A,s,Z,u,r];exact VB x P _ _ (g.set _ o_) (by simp only[go_sem,u]<;>rfl) ⟨0,by rw[f,show(Ce c inst).inst k.v a.L=none from r2 m]⟩
theorem agd [RunsM K]{g:List DV}(eg:Eg g)(hN:N<=20000)(hW:P33 K g N){c:List T}(th:TOK f)(hk:f.D=3)(ta:∀x∈c,TOK x)(x:Cn h w (some d))(hw:w<h.z)(hm:(aO (bA f c):Int)+2*(2000-d.n)<=N+1){b:DV}{I E:Nat}(J:J72 f b e I E h H)
  (dm:b∈g) (M:b.D=3) (he:e.D=5) (O:rY g f.N=.tup [gJ b,.I (-2),.bool true]) (hc:oD g f.N f.L.length=.rcr (bM b) (bM b+((fD b.type).length:Int)-b.f).toNat b.N b.R)  (t0:nth tm 0=.eD g)
  (t3:nth tm 3=.P w) (t2:nth tm 2=.eT c) (t5:nth tm 5=.P h.z) (A:nth tm 8=.P (h.z+1)) (s:nth tm 10=.P I) (y:nth tm 12=.P E) :
  R_ K [.code iu] (Fin vY (P72 K g N f c d w h)) .normal (F_ 72 tm) H:=by
 have U:=eg.dg b dm;have D:=U.fx0;have ak:=U.fx1 M;have F:=U.ty;have aj:=iM _ b.type (e_ _);have ah:=U.ds.C;have ao:(bM b:Int)=b.f+1+b.C.length:=by unfold bM;omega
 have aa:ym b=((fD b.type).length:Int)-b.f:=by unfold ym;omega
 have ad:T.mk 3 f.X f.N f.L f.K=f:=by rw[<-hk];exact fL f
 have ab:(Ce g inst).cst f.N f.L.length=_:=hc;have o:=λW=>zZ ab W f.X f.K c;rw[ad]at o;have J':=J;have⟨kk,g5,_,n,Y,_,_,_⟩:=J;have kn:=kk.z;have ap:=cd f c;have al:=x.1.n1;obtain⟨_,H1,u,rfl,k1⟩:=WN (h:=H) b D o_ F o_;obtain⟨_,H2,C,rfl,k2⟩:=WN (h:=H1) b D o_ F o_;have l1:=k1.z;have l2:=k2.z;have P:=J'.up k1;have B:=P.up k2;have b5:=J'.g5;have r:=P.g5;have p:=B.g5;have k:=cE (sz:=23) J'.g12 rfl;have j:=cE (sz:=23) P.g12 rfl;have⟨i,G⟩:∃i:Nat,(bM b+((fD b.type).length:Int)-b.f).toNat=i:=⟨_,rfl⟩;have z:b.f+1+(b.C.length:Int)+ym b=(i:Int):=o_;rw[z]at u C;unfold aG at g5 b5 r p;unfold aQ at Y k j;unfold aY at n;rw[he]at n;rw[bX]at u C;by_cases ag:c.length<=i
 ·have X:decide ((c.length:Int)<=(i:Int))=true:=t_;have ac:=P.g8;unfold aQ at u;simp only[go_sem,iu,s,n,y,k,t2,u,X,A,ac];exact VB x hw _ _ (P.hk.set _ o_) (by simp only[go_sem,A]<;>rfl) ⟨0,by rw[o,G,S_ o_]⟩
 have X:decide ((c.length:Int)<=(i:Int))=false:=d_;have⟨a,l⟩:∃a,c[i]?=some a:=⟨_,a_ o_⟩;have S:=m_ l;have af:=cH S;have an:=bI f;have ai:1<=c.length:=o_;obtain⟨_,H3,e3,_,_,rfl,V,x3,wr⟩:=hW a (some d) H2 w (ta a S) (x.kw (B.hk.kw w hw)) (by have:=B.hk.z;omega) (λd' q=>by cases q;omega);have l3:=V.z;have L:=V.up p;have⟨_,_,e4,Z,c',x4,st⟩:=c1113 (h:=H3) eg th hk ta dm M O hc (by rw[G];exact l) wr o_ o_ x3 (by have:=B.hk.z;omega);have l4:=Z.z;have b84:=Z.up (V.up B.g8);have Q:=((B.hk.x w).trans V).trans Z;have am:=wr.ov;unfold aQ at u C;rw[aJ f]at e4;rcases st with⟨rfl,hs⟩|⟨t',rfl,tt,ts,hs⟩
 ·have t:=bz b84 zero;simp only[go_sem,iu,s,n,y,k,j,t2,u,X,t0,t5,r,p,L,t3,C,l,e3,e4,A,t];exact cO (.inr rfl) (a:=.agg (aG zero)) (by simp only[go_sem,A,aG]<;>rfl) (ae (jc (jt (dH _) (ei _)) _) (ae (bp _ _) (aH _))) ⟨Q.set _ (.inl o_),c',x4.kw (aA o_),.inl ⟨rfl,hs⟩⟩
 have t:=bz b84 t';simp only[go_sem,iu,s,n,y,k,j,t2,u,X,t0,t5,r,p,L,t3,C,l,e3,e4,A,t];exact cO (.inr rfl) (a:=.agg (aG t')) (by simp only[go_sem,A,aG]<;>rfl) (ae (jc (jt (dH _) (ei _)) _) (ae (bp _ _) (aH _))) ⟨Q.set _ (.inl o_),c',x4.kw (aA o_),.inr ⟨t',rfl,tt,o_,hs⟩⟩
def WD {b:List DV}{a:List T}(tm:Tm){e:AH}{f:Option CT}(i:HKx w h e)(x:Cn e w f)(j:fH vY tm e=some [.agg zT,.bool false])(hs:∀c,f=some c->d.n<=c.n/\d.f<=c.f/\∃n,MK.step (Ce b inst) (Wn (Ce b inst) n) g a=some (.stuck g a)):
  Fin vY (P72 K b N g a d w h) .ret (F_ 72 tm) e:=
 cO (.inr rfl) j (ae (jh _) (ae (bp _ _) (aH _))) ⟨i,f,x,.inl ⟨rfl,λc q=>⟨d,rfl,hs c q⟩⟩⟩
theorem age [RunsM K]{m:List DV}(eg:Eg m)(hN:N<=20000)(hW:P33 K m N){c:List T}(th:TOK g)(hk:g.D=3)(ta:∀x∈c,TOK x)(x:Cn h w (some d))(hw:w<h.z)(hm:(aO (bA g c):Int)+2*(2000-d.n)<=N+1){dv:DV}{ao am:Nat}(J:J72 g dv e ao am h H)
  (dm:dv∈m) (he:e.D=6)  (hj:e.item=j) {f:FnV} (hf:dv.F[j]?=some f) (hc:oD m g.N g.L.length=.fn f.a.toNat f.tree)  (t0:nth tm 0=.eD m)
  (t3:nth tm 3=.P w) (t2:nth tm 2=.eT c) (t5:nth tm 5=.P h.z) (U:nth tm 8=.P (h.z+1)) (Q:nth tm 10=.P ao) (S:nth tm 12=.P am) :
  R_ K [.code iu] (Fin vY (P72 K m N g c d w h)) .normal (F_ 72 tm) H:=by
 have dg:=eg.dg dv dm;have⟨_,_,tr⟩:=dg.F f (m_ hf);have⟨nd,_⟩:Nd g.D g.X g.N g.L g.K.length/\gO g.K:=by rw[<-fL g,TOK]at th;exact th
 have cf:=nd.lev.2.1 hk;have bm:T.mk 3 g.X g.N g.L g.K=g:=by rw[<-hk];exact fL g
 have bi:(Ce m inst).cst g.N g.L.length=_:=hc;have i:=λW=>Lf bi W g.X g.K c;rw[bm]at i;have⟨r,bk⟩:∃r:Nat,f.a=r:=⟨f.a.toNat,o_⟩;have az:f.a.toNat=r:=o_;rw[az]at i;have J':=J;have kn:=J.hk.z;have cg:=cd g c;have b3:=x.1.n1;have⟨_,_,_⟩:=J.lt;have⟨G,q1,I,k1,_,p⟩:=nbF H (iw f) rfl;have J1:=J.up k1;have F:=aR encFn_len hf .i64;have L:=λh=>eA (v:=gk f) (sz:=15) rfl rfl h;have be:gk f=.agg (iw f):=rfl;rw[be]at F L;have b5:=J.g5;have z:=J.g10;have E:=J.g12;have a9:=J1.g8;have P:=p;unfold aG at b5;unfold aQ at E;unfold aY at z;rw[he,hj]at z;unfold zF at I;unfold iw at p;rw[bk]at p;by_cases B:c.length<r
 ·have dl:decide ((c.length:Int)<(r:Int))=true:=t_;simp only[go_sem,iu,Q,z,S,E,F,L,I,t2,p,dl,U,a9];exact VB x hw _ _ (J1.hk.set _ o_) (by simp only[go_sem,U]<;>rfl) ⟨0,by rw[i,P_ B]⟩
 have dl:decide ((c.length:Int)<(r:Int))=false:=d_;have Y:=BP c (show r<=c.length by omega);have⟨V,q2,k2,_,bg,a5⟩:∃V,V=(G.new zB).new zB/\HK G V/\V.z=G.z+2/\V.get G.z=some zB/\V.get (G.z+1)=some zB:=by
  have Jx:=Jb.two (X:=λ_=>False) G zB zB (λ_ q=>q.elim);exact⟨_,rfl,Jx.kw.k,by simp only[aB],Jx.c0⟩
 have J2:=J1.up k2;have x2:=x.kw (J2.hk.kw w hw);have a6:∀y∈c,(aO y:Int)+2*(2000-d.n)<=N:=λy D=>by have:=cH D;have:=bI g;have:=List.length_pos_of_mem D;omega
 have⟨_,H3,e3,k3,c1,x3,a2,lf⟩:=c1114 (h:=V) eg hN hW tr (vars:=c.take r) (λy D=>ta y (List.mem_of_mem_take D)) (by rw[Y_];omega) (c:=some d) (λd' q y D=>by cases q;exact a6 y (List.mem_of_mem_take D)) x2 (by have:=J2.hk.z;omega);have l3:=k3.z;have cc:=J2.hk.z;have A:cC (.ptr H.z 0 7) G true 8=some (.agg (bc f.tree)):=by
  unfold iw at P;rw[fE,P,aK,fh,lv _ _ _ (by simp)];rfl
 have o:cC (.ptr H.z 0 7) V true 8=some (.agg (bc f.tree)):=by
  have:=k2.up P;unfold iw at this;rw[fE,this,aK,fh,lv _ _ _ (by simp)];rfl
 have t:=k2.up p;have ax:=k3.up t;have au:=k3.up bg;have a1:=k3.up a5;have two:∀b l:T,∃M,cY (.P G.z) H3 5 (enc b)=some (H3.set G.z (.box (aG b)))/\cY (.P (G.z+1)) (H3.set G.z (.box (aG b))) 5 (enc l)=some M/\M.z=H3.z/\M.get G.z=some (.box (aG b))/\∀a,a<G.z->M.get a=H3.get a:=λb l=>
  ⟨_,bz au b,bz ((aA o_).trans a1) l,by simp only[aE],by rw[aA o_];exact aF _ _ _,λa ha=>by rw[aA o_,aA o_]⟩
 rcases lf with⟨ak,rfl,hs⟩|⟨k,vs,rfl,tb,sb,aw,lvs,hs⟩
 ·have⟨M,u,s,n4,C,X⟩:=two zero ak;have b84:=(X (h.z+1) o_).trans (k3.up J2.g8);have ac:HKx w h M:=⟨o_,λa ha q=>(X a o_).trans ((k3.kw a o_ q).trans (J2.hk.kw a ha))⟩;simp only[go_sem,iu,Q,z,S,E,F,L,I,t2,p,dl,t0,<-q2,o,t,Y,t3,e3,u,s,U,b84];refine WD _ (ac.set _ (.inl o_)) (x3.kw ((aA o_).trans (X w o_))) (by simp only[go_sem,U]<;>rfl) λd' q=>?_;have⟨d1,q1,u1,u2⟩:=a2 d' q;cases q1;have⟨n,hn⟩:=hs d' q;exact⟨u1,u2,n,by rw[i,N_ B,hn]⟩
 have⟨M,u,s,_,C,X⟩:=two k zero;have b84:=(X (h.z+1) o_).trans (k3.up J2.g8);have af:M.get h.z=_:=(X h.z o_).trans (k3.up J2.g5);have al:M.get H.z=_:=(X H.z o_).trans ax;have ac:HKx w h M:=⟨o_,λa ha q=>(X a o_).trans ((k3.kw a o_ q).trans (J2.hk.kw a ha))⟩;have x4:Cn M w c1:=x3.kw (X w o_);have⟨_,_,_,_,gw,hb⟩:=oA x4;unfold ctB at gw;unfold aG at af C;rcases hb with⟨rfl,rfl⟩|⟨rfl,d1,rfl,bq,rfl,rfl,rfl⟩
 ·simp only[go_sem,iu,Q,z,S,E,F,L,I,t2,p,dl,t0,<-q2,o,t,Y,t3,e3,u,s,gw,U,b84];exact WD _ (ac.set _ (.inl o_)) (x4.kw (aA o_)) (by simp only[go_sem,U]<;>rfl) λd' q=>by cases q
 have⟨_,q0,u1,u2⟩:=a2 d1 rfl;cases q0;have⟨a8,n,hn⟩:=hs d1 rfl;have ce:(n:Nat)=n:=rfl;have bw:=bq.n1;obtain⟨_,H5,e5,⟨xT,e',rfl,r1,r2⟩,k5⟩:=WO nd.val o_ k M o_ tb;have l5:=k5.z;have⟨H6,_,a3,k6,_,g6⟩:=oN H5 xT;have ab:=k5.trans k6;have aq:=ab.up b84;have ag:=ac.trans (ab.x w);have x6:=x4.kw (ab.kw w o_);rw[aJ k]at e5;by_cases aj:e'=0
 ·subst aj;have hi:=r1 rfl;have⟨tx,_⟩:=rU nd.val k xT tb hi;have b1:=ag.z;obtain⟨_,H7,e7,rfl,k7⟩:=c1115 (h:=H6) vs o_;obtain⟨_,H8,e8,O,eS,rfl,k8,_,an,ap,br⟩:=agP (h:=H7) vs.reverse (λy D=>by have:=a8 y (List.mem_reverse.1 D);exact⟨o_,jC y (aw y (List.mem_reverse.1 D))⟩) (by rw[List.length_reverse];omega) xT o_ (jC xT tx);have l7:=k7.z;have l8:=k8.z;have ah:=k7.up g6;have bb:=k8.up ah;have a4:=bz bb O;have⟨H9,q9,k9,_,g9⟩:∃H9:AH,H9=H8.set H5.z (.box (aG O))/\(∀a,a<H5.z->H9.get a=H6.get a)/\H9.z=H8.z/\H9.get H5.z=some (.box (aG O)):=⟨_,rfl,λa ha=>by rw[aA o_];exact k8.up (k7.kw a o_),aE _ _ _,aF _ _ _⟩;rw[<-q9]at a4;have bl:TOK O:=by
   by_cases hS:eS=0
   ·have:=ap hS;rw[this]at an ⊢;exact sd _ (λy D=>aw y (List.mem_reverse.1 D)) xT 0 tx an
   rw[br hS];exact rI
  have x9:Cn H9 w (some d1):=x6.kw (k9 w o_);obtain⟨_,av,a0,rfl,Z,c',bf,fm⟩:=FL (h:=H9) O o_ eS x9 o_;have b0:=Z.z;obtain⟨_,bv,ay,rfl,aa⟩:=c74 O (c.drop r) av (by rw[List.length_drop];omega);have cb:=aa.z;have b8:bv.get (h.z+1)=some zB:=aa.up (Z.up ((k9 _ o_).trans aq));have bd:=bz b8 (bA O (c.drop r));have ad:H9.get H.z=_:=(k9 H.z o_).trans (ab.up al);have ai:=Z.up ad;have a7:∀(tm:Tm),nth tm 139=.I (r:Int)->fb 5 (.eT c) tm (some (.t 139)) none=some (.eT (c.drop r)):=λtm q=>BO c q o_;unfold aG at g6 ah g9;rw[aJ xT]at e8;rw[aJ O]at a0 ay;simp only[go_sem,iu,Q,z,S,E,F,L,I,t2,p,dl,t0,<-q2,o,t,Y,t3,e3,u,s,gw,C,t5,af,e5,a3,g6,ah,e7,e8,a4,g9,ad,ai,a0,a7,ay,U,bd];refine cO (.inr rfl) (a:=.agg (aG (bA O (c.drop r)))) (by simp only[go_sem,U,aG]<;>rfl) (ae (jc (jt (dH _) (ei _)) _) (ae (bp _ _) (aH _))) ⟨⟨by rw[aE];omega,λa ha q=>?_⟩,c',bf.kw ((aA o_).trans (aa.kw w o_)),.inr ⟨_,rfl,ij bl λy D=>ta y (List.mem_of_mem_drop D),?_,λd' q=>?_⟩⟩
  ·rw[aA o_,aa.kw a o_,Z.kw a o_ q,k9 a o_];exact ag.kw a ha q
  ·have e1:=dR (c.take r) (c.drop r);rw[j_]at e1;rw[cd,List.length_drop];omega
  have⟨_,q2,e0,_,_,_⟩:=fm.up q;cases q2;have e1:=dR (c.take r) (c.drop r);rw[j_]at e1;have hp:=bI O;have b2:=bI g;exact⟨d,rfl,o_,o_,by rw[cd O,List.length_drop];omega,n,fM vs.reverse xT 0,c.drop r,by rw[i,N_ B,hn];simp only;rw[show(Ce m inst).inst k g.L=some xT from hi],by rw[<-ap e0]⟩
 have de:=D_ aj;simp only[go_sem,iu,Q,z,S,E,F,L,I,t2,p,dl,t0,<-q2,o,t,Y,t3,e3,u,s,gw,C,t5,af,e5,a3,de,U,aq];exact WD _ (ag.set _ (.inl o_)) (x6.kw (aA o_)) (by simp only[go_sem,U]<;>rfl) λd' q=>by
  cases q;exact⟨u1,u2,n,by rw[i,N_ B,hn];simp only;rw[show(Ce m inst).inst k g.L=none from r2 aj]⟩
theorem c1072 [RunsM K]{a:List DV}(X:Eg a)(hN:N<=20000)(hW:P33 K a N){o:List T}(th:TOK g)(hk:g.D=3)(ta:∀x∈o,TOK x)(x:Cn h w (some d))(P:w<h.z)(hm:(aO (bA g o):Int)+2*(2000-d.n)<=N+1):
  Rt K (72) [.eD a,enc g,.eT o,.P w] h (P72 K a N g o d w h):=by
 refine aV afr ?_;have⟨H,q0,k0,_,g0,g1⟩:∃H,H=(h.new (.box (aG g))).new zB/\HK h H/\H.z=h.z+2/\H.get h.z=some (.box (aG g))/\H.get (h.z+1)=some zB:=by
  have J:=Jb.two (X:=λ_=>False) h (.box (aG g)) zB (λ_ q=>q.elim);exact⟨_,rfl,J.kw.k,by simp only[aB],J.c0⟩
 have ad:T.mk 3 g.X g.N g.L g.K=g:=by rw[<-hk];exact fL g
 have af:=x.1.n1;obtain⟨_,Z,u,rfl,L⟩:=abP (h:=H) a g X.ds X.len;have l1:=L.z;have O:oD a g.N g.L.length=.rigid->∃n,MK.step (Ce a inst) (Wn (Ce a inst) n) g o=some (.stuck g o):=λhc=>⟨0,by
  have:=yx (C:=Ce a inst) hc (Wn (Ce a inst) 0) g.X g.K o;rw[ad]at this;exact this⟩
 have D:=g0;unfold aG at q0 D;cases M:fG g.N a 0 with
 |none=>
  have⟨H2,q2,s,E,n2,g2⟩:=nbE Z zEl rfl;have B:=((L.trans E).kw (h.z+1) o_).trans g1;unfold usV at u;rw[M]at u;unfold zE zEl at s;unfold zEl at u;rw[aJ]at u ⊢;simp only[go_sem,aB,<-q0,D,u,s,B];exact VB x P _ _ (((k0.trans L).trans E).set _ o_) (by simp only[go_sem]<;>rfl) (O (by unfold oD;rw[M]))
 |some e=>
  have⟨H2,_,s,E,_,g2⟩:=nbE Z (aY e) rfl;have B:=((L.trans E).kw (h.z+1) o_).trans g1;unfold usV at u;rw[M]at u;unfold zE at s;by_cases Y:(g.L.length:Int)=e.Q
  ·have ent:=jm a a 0 e (λj=>by rw[z_]) M;have⟨n,m,v,l⟩:∃(n:Nat) (m:DV),e.decl=n/\a[n]?=some m:=by
    cases ent with
    |plain k n d p t i r y=>exact⟨n,d,rfl,i⟩
    |ctor n j d c p i r y=>exact⟨n,d,rfl,i⟩
    |rcr n d p t i r=>exact⟨n,d,rfl,i⟩
    |fn n j d f p i r y=>exact⟨n,d,rfl,i⟩
   have⟨H3,_,U,k3,_,g3⟩:=nbD H2 (aQ m) rfl;have ia:=aR encD_len l .i64;have S:=λh=>eA (v:=gJ m) (sz:=23) rfl rfl h;rw[bX]at ia S;unfold zD at U;have kk:=((k0.trans L).trans E).trans k3;have J:J72 g m e Z.z H2.z h H3:=⟨kk,(((L.trans E).trans k3).kw h.z o_).trans g0,k3.up B,k3.up g2,g3,o_⟩;have F:=g2;unfold aY at F;rw[v]at F;have I:=T_ Y;simp only[I]at u;have b:oD a g.N g.L.length=if e.D=1 then .dfn m.v
     else if e.D=5 then .rcr (bM m) (bM m+((fD m.type).length:Int)-m.f).toNat m.N m.R
     else if e.D=6 then (match m.F[e.item.toNat]? with
      |none=>.rigid
      |some f=>.fn f.a.toNat f.tree) else .rigid:=by
    unfold oD;rw[M];simp only;rw[P_ Y.symm,v,G_,l];rfl
   have dm:=m_ l;rw[aJ]at u ⊢;simp only[go_sem,aB,<-q0,D,u,s,F,ia,S,U];have G:e.D≠1->e.D≠5->e.D≠6->∀tm,nth tm 8=.P (h.z+1)->nth tm 10=.P Z.z->R_ K [.code iu] (Fin vY (P72 K a N g o d w h)) .normal (F_ 72 tm) H3:=by
    intro z A C tm t8 ab;have Q:=J.g10;have g8:=J.g8;unfold aY at Q;simp only[go_sem,iu,ab,Q,z,A,C,t8,g8];exact VB x P _ _ (kk.set _ o_) (by simp only[go_sem,t8]<;>rfl) (O (by rw[b,N_ z,N_ A,N_ C]))
   by_cases z:e.D=1
   ·rw[P_ z]at b;have aa:m.D=1:=by
     cases ent with
     |plain k n' d' p t i r y=>
      simp only at z v;have:n'=n:=o_;subst this;rw[l]at i;cases i;omega
     |ctor n j d c p i r y=>simp at z
     |rcr n d p t i r=>simp at z
     |fn n j d f p i r y=>simp at z
    exact agf X th hk ta x P o_ J dm aa z b k_ k_ k_ k_ k_ k_
   rw[N_ z]at b;by_cases A:e.D=5
   ·rw[P_ A]at b;have ac:m.D=3:=by
     cases ent with
     |plain k n' d' p t i r y=>simp only at A;omega
     |ctor n j d c p i r y=>simp at A
     |rcr n' d' p t i r=>
      simp only at v;have:n'=n:=o_;subst this;rw[l]at i;cases i;exact r
     |fn n j d f p i r y=>simp at A
    have W:rY a g.N=.tup [gJ m,.I (-2),.bool true]:=by
     unfold rY;rw[M];simp only;rw[v,G_,l];simp only;rw[N_ o_,N_ o_,P_ A]
    exact agd X hN hW th hk ta x P hm J dm ac A W b k_ k_ k_ k_ k_ k_ k_
   rw[N_ A]at b;by_cases C:e.D=6
   ·rw[P_ C]at b;have⟨j,f,hj,V⟩:∃(j:Nat) (f:FnV),e.item=j/\m.F[j]?=some f:=by
     cases ent with
     |plain k n' d' p t i r y=>simp only at C;omega
     |ctor n j d c p i r y=>simp at C
     |rcr n d p t i r=>simp at C
     |fn n' j d' f p i r y=>
      simp only at v;have:n'=n:=o_;subst this;rw[l]at i;cases i;exact⟨j,f,rfl,y⟩
    rw[hj,G_,V]at b;exact age X hN hW th hk ta x P hm J dm C hj V b k_ k_ k_ k_ k_ k_ k_
   exact G z A C _ k_ k_
  have I:=D_ Y;simp only[I]at u;rw[aJ]at u ⊢;simp only[go_sem,aB,<-q0,D,u,s,B];exact VB x P _ _ (((k0.trans L).trans E).set _ o_) (by simp only[go_sem]<;>rfl) (O (by unfold oD;rw[M];simp only;rw[N_ λq=>Y q.symm]))
end
