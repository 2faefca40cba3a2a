/- MachineKeeps: guards: Nodes, Few, Good of terms (no condition). -/
import Derived.Test.YtocdlbblemjabaaGreatDoorBp
namespace Go.Proofs.YtocdlbblemjabaaGreatDoor
open Go.AG Go.AG.MK
section
variable {K:aQ}{h:AH}
def I24 (q:Int)(l:List T)(h0:AH)(j:Nat)(fr:AF)(h:AH):Prop:=∃ tm p x,p+j=l.length/\fr=⟨tm,⟨[],.no,none,22⟩⟩/\HK h0 h/\nth tm 0=i_ q/\nth tm 5=i_ x/\nth tm 8=.ls (l.map enc)/\nth tm 9=i_ (l.length:Int)/\nth tm 10=i_ (p:Int)
theorem c24 (hK:aZ K):∀ (n m:Nat) (q:Int) (l:List T) (h:AH),n+1<=m->bO l<=n->n<=100000000->
  ∃ v h',cS K m (.fn 22 [] []) [i_ q,.ls (l.map enc)] .no h=some (.ret v,.no,h')/\(∃ e,v=i_ e)/\HK h h':=by
 intro n;induction n with
 |zero=>
  intro m q l h hm hs _;obtain⟨m,rfl⟩:∃ k,m=k+1:=⟨m-1,o_⟩
  have:=bP l;have hl:l=[]:=List.eq_nil_of_length_eq_zero o_;subst hl;refine bh hK cf24 (ae (aG .i64 q h) (ae (pY [] h) (aC _))) ?_;unfold b24;simp only[go_sem,simprocAttr,aac,aad,List.map_nil,List.length_nil];refine bB (I24 q [] h) 0 o_ ⟨_,0,0,rfl,rfl,HK.refl h,k_,k_,by(first|(simp only[go_sem,simprocAttr];done)|(simp only[go_sem,simprocAttr];rfl)),by(first|(simp only[go_sem,simprocAttr];done)|(simp only[go_sem,simprocAttr];rfl)),by(first|(simp only[go_sem,simprocAttr];done)|(simp only[go_sem,simprocAttr];rfl))⟩ ?_;rintro j fr H ⟨tm,p,x,hp,rfl,hk,t0,t5,t8,t9,t10⟩;unfold aa6;simp only[go_sem,simprocAttr,t9,t10,aaf];refine aX (fun hlt=>?_) (fun hge=>?_)
  ·have:([]:List T).length=0:=rfl;omega
  ·simp only[go_sem,simprocAttr,aae,t5];exact⟨rfl,rfl,.inr rfl,[i_ x],by simp only[go_sem,simprocAttr,r24],i_ x,_,aS (by intro l e;cases e) (aG _ _ _),⟨_,rfl⟩,hk⟩
 |succ n ih=>
  intro m q l h hm hs hn;obtain⟨m,rfl⟩:∃ k,m=k+1:=⟨m-1,o_⟩
  have hlk:=bP l;refine bh hK cf24 (ae (aG .i64 q h) (ae (pY l h) (aC _))) ?_;unfold b24;simp only[go_sem,simprocAttr,aac,aad,L_];refine bB (I24 q l h) l.length o_ ⟨_,0,0,z_ _,rfl,HK.refl h,k_,k_,k_,k_,k_⟩ ?_;rintro j fr H ⟨tm,p,x,hp,rfl,hk,t0,t5,t8,t9,t10⟩;unfold aa6;simp only[go_sem,simprocAttr,t9,t10,aaf];refine aX (fun hlt=>?_) (fun hge=>?_)
  ·have hlt:p<l.length:=o_;have hget:l[p]?=some l[p]:=a_ hlt;have ha:=fun h=>aK bJ hget .i64 h
   have ele:=dN l[p];have hsm:=cL (m_ hget);have hsk:=eA l[p];have hw:=aP p o_;have hst:=du (h:=H.new (.box [i_ 0,i_ 0,.str (bs []),.nl,.nl])) (k:=H.z) (aE _ _) l[p];obtain⟨H1,hH1⟩:∃ H1:AH,H1=(H.new (.box [i_ 0,i_ 0,.str (bs []),.nl,.nl])).set H.z (.box (aJ l[p])):=⟨_,rfl⟩
   have k1:HK H H1:=by rw[hH1];exact HK.new_set _ _ _
   have g1:H1.get H.z=some (.box (aJ l[p])):=by rw[hH1,aH]
   rw[<- hH1]at hst;clear hH1;unfold aJ at g1;simp only[go_sem,simprocAttr,aeR,t8,t10,ha,ele,hst,aeS,t0,t5];refine aX (fun hgt=>?_) (fun hgt=>?_)
   ·simp only[go_sem,simprocAttr];exact⟨rfl,rfl,.inr rfl,[i_ x],by simp only[go_sem,simprocAttr,r24,t5],i_ x,_,aS (by intro l e;cases e) (aG _ _ _),⟨_,rfl⟩,hk.trans k1⟩
   ·obtain⟨v,H2,e2,⟨e,rfl⟩,k2⟩:=ih m (IntKind.wrap .i64 (q-x)) l[p].K H1 o_ o_ o_;simp only[go_sem,simprocAttr,t0,t5,g1,e2,t10,hw];exact⟨j-1,o_,_,p+1,_,o_,rfl,(hk.trans k1).trans k2,q_ t0,by simp only[go_sem,simprocAttr];rfl,q_ t8,q_ t9,k_⟩
  ·simp only[go_sem,simprocAttr,aae,t5];exact⟨rfl,rfl,.inr rfl,[i_ x],by simp only[go_sem,simprocAttr,r24],i_ x,_,aS (by intro l e;cases e) (aG _ _ _),⟨_,rfl⟩,hk⟩
theorem c26 (hK:aZ K)(m:Nat)(l:LL):∃ v h',cS K (m+1) (.fn 83 [] []) [ba l] .no h=some (.ret v,.no,h')/\v=.bool (decide ((l.vars.length:Int) > 20))/\HK h h':=by
 refine bh hK cf26 (ae (jz l h) (aC _)) ?_;unfold b26;simp only[go_sem,simprocAttr,pB,aeP,L_];exact⟨rfl,rfl,.inr rfl,[_],by simp only[go_sem,simprocAttr,r26],_,_,aS (by intro l e;cases e) (aW _ _),rfl,HK.new _ _⟩
def I6 (l:List T)(h0:AH)(j:Nat)(fr:AF)(h:AH):Prop:=∃ tm p,p+j=l.length/\fr=⟨tm,⟨[],.no,none,44⟩⟩/\HK h0 h/\nth tm 8=.ls (l.map enc)/\nth tm 9=i_ (l.length:Int)/\nth tm 10=i_ (p:Int)
theorem c6 (hK:aZ K):∀ (n m:Nat) (l:List T) (h:AH),2*n+10<=m->bO l<=n->n<=100000000->(∀ t∈l,BT t)->
  ∃ v h',cS K m (.fn 44 [] []) [.ls (l.map enc)] .no h=some (.ret v,.no,h')/\(∃ b,v=.bool b)/\HK h h':=by
 intro n;induction n with
 |zero=>
  intro m l h hm hs _ _;obtain⟨m,rfl⟩:∃ k,m=k+1:=⟨m-1,o_⟩
  have:=bP l;have hl:l=[]:=List.eq_nil_of_length_eq_zero o_;refine bh hK cf6 (ae (pY l h) (aC _)) ?_;have ret:∀ (tm:Tm) (b:Bool) (H:AH),HK h H->nth tm 2=.bool b->IQ r6 (fun v h2=>∃ v' h3,cG v h2=(v',h3)/\(∃ b,v'=.bool b)/\HK h h3) .ret ⟨tm,⟨[],.no,none,44⟩⟩ H:=fun tm b H hk t2=>
   ⟨rfl,rfl,.inr rfl,[.bool b],by simp only[go_sem,simprocAttr,r6,t2],.bool b,_,aS (by intro l e;cases e) (aW _ _),⟨_,rfl⟩,hk⟩
  obtain⟨v,H1,e1,⟨e,rfl⟩,k1⟩:=c24 hK 0 m 200 l h o_ hs o_;unfold b6;simp only[go_sem,simprocAttr,akK,e1];refine aX (fun hgt=>?_) (fun hgt=>?_)
  ·simp only[go_sem,simprocAttr];exact ret _ false H1 k1 k_
  ·simp only[go_sem,simprocAttr,akL,L_];refine bB (I6 l h) 0 o_ ⟨_,0,by rw[hl];rfl,rfl,k1,k_,k_,k_⟩ ?_;rintro j fr H ⟨tm,p,hp,rfl,hk,t8,t9,t10⟩;unfold ak1;simp only[go_sem,simprocAttr,t9,t10,akN];refine aX (fun hlt=>?_) (fun hge=>?_)
   ·rw[hl]at hp hlt;simp at hp hlt;omega
   ·simp only[go_sem,simprocAttr,akM];exact ret _ true H hk k_
 |succ n ih=>
  intro m l h hm hs hn bt;obtain⟨m,rfl⟩:∃ k,m=k+2:=⟨m-2,o_⟩
  have hlk:=bP l;refine bh hK cf6 (ae (pY l h) (aC _)) ?_;have ret:∀ (tm:Tm) (b:Bool) (H:AH),HK h H->nth tm 2=.bool b->IQ r6 (fun v h2=>∃ v' h3,cG v h2=(v',h3)/\(∃ b,v'=.bool b)/\HK h h3) .ret ⟨tm,⟨[],.no,none,44⟩⟩ H:=fun tm b H hk t2=>
   ⟨rfl,rfl,.inr rfl,[.bool b],by simp only[go_sem,simprocAttr,r6,t2],.bool b,_,aS (by intro l e;cases e) (aW _ _),⟨_,rfl⟩,hk⟩
  obtain⟨v,H1,e1,⟨e,rfl⟩,k1⟩:=c24 hK (n+1) (m+1) 200 l h o_ hs o_;unfold b6;simp only[go_sem,simprocAttr,akK,e1];refine aX (fun hgt=>?_) (fun hgt=>?_)
  ·simp only[go_sem,simprocAttr];exact ret _ false H1 k1 k_
  ·simp only[go_sem,simprocAttr,akL,L_];refine bB (I6 l h) l.length o_ ⟨_,0,z_ _,rfl,k1,k_,k_,k_⟩ ?_;rintro j fr H ⟨tm,p,hp,rfl,hk,t8,t9,t10⟩;unfold ak1;simp only[go_sem,simprocAttr,t9,t10,akN];refine aX (fun hlt=>?_) (fun hge=>?_)
   ·have hlt:p<l.length:=o_;have hget:l[p]?=some l[p]:=a_ hlt;have ha:=fun h=>aK bJ hget .i64 h
    have ele:=dN l[p];have hsm:=cL (m_ hget);have hb:=bt _ (m_ hget);revert hget ha ele hsm hb;generalize l[p]=x;intro hget ha ele hsm hb;have hsk:=eA x;have hw:=aP p o_;have hst:=du (h:=H.new (.box [i_ 0,i_ 0,.str (bs []),.nl,.nl])) (k:=H.z) (aE _ _) x;obtain⟨H2,hH2⟩:∃ H2:AH,H2=(H.new (.box [i_ 0,i_ 0,.str (bs []),.nl,.nl])).set H.z (.box (aJ x)):=⟨_,rfl⟩
    have k2:HK H H2:=by rw[hH2];exact HK.new_set _ _ _
    have n2:H2.z=H.z+1:=by rw[hH2,alb,ala]
    have g2:H2.get H.z=some (.box (aJ x)):=by rw[hH2,aH]
    rw[<- hH2]at hst;clear hH2;unfold aJ at g2;have hk2:=hk.trans k2;simp only[go_sem,simprocAttr,s6_1,t8,t10,ha,ele,hst];by_cases a1:(x.name.size:Int) > 200
    ·have d1:decide ((x.name.size:Int) > 200)=true:=T_ a1;simp only[go_sem,simprocAttr,adE,g2,d1];exact ret _ false H2 hk2 k_
    ·have d1:decide ((x.name.size:Int) > 200)=false:=D_ a1;by_cases a2:(x.L.length:Int) > 20
     ·have d2:decide ((x.L.length:Int) > 20)=true:=T_ a2;simp only[go_sem,simprocAttr,adE,g2,d1,L_,d2];exact ret _ false H2 hk2 k_
     ·have d2:decide ((x.L.length:Int) > 20)=false:=D_ a2;have pr:Pr K (m-1) (.fn 83 [] []) ba (fun l=>decide ((l.vars.length:Int) > 20)) x.L (fun _=>True):=
       ⟨fun _ _ _ _=>trivial,fun y _ H _=>by
        obtain⟨v,h',e,rfl,hk⟩:=c26 (h:=H) hK (m-2) y;rw[show m-2+1=m-1 by omega]at e;exact⟨h',e,hk⟩,fun h=>by rw[iR];rfl⟩
      obtain⟨v,H3,e3,rfl,k3⟩:=c25 (h:=H2) hK pr trivial o_;rw[show m-1+2=m+1 by omega]at e3;have g3:=(k3.kw _ o_).trans g2;cases hb3:(x.L.any fun l=>decide ((l.vars.length:Int) > 20)) with
      |true=>
       rw[hb3]at e3;simp only[go_sem,simprocAttr,adE,g2,d1,L_,d2,e3];exact ret _ false H3 (hk2.trans k3) k_
      |false=>
       rw[hb3]at e3;obtain⟨v,H4,e4,⟨b4,rfl⟩,k4⟩:=ih (m+1) x.K H3 o_ o_ o_ (fun t ht=>hb.kid t ht);simp only[go_sem,simprocAttr,adE,g2,d1,L_,d2,e3,g3,e4];cases b4 with
       |false=>
        simp only[go_sem,simprocAttr];exact ret _ false H4 ((hk2.trans k3).trans k4) k_
       |true=>
        simp only[go_sem,simprocAttr,t10,hw];exact⟨j-1,o_,_,p+1,o_,rfl,(hk2.trans k3).trans k4,q_ t8,q_ t9,k_⟩
   ·simp only[go_sem,simprocAttr,akM];exact ret _ true H hk k_
def I1023 (l:List T)(h0:AH)(j:Nat)(fr:AF)(h:AH):Prop:=∃ tm p,p+j=l.length/\fr=⟨tm,⟨[],.no,none,23⟩⟩/\HK h0 h/\nth tm 8=.ls (l.map enc)/\nth tm 9=i_ (l.length:Int)/\nth tm 10=i_ (p:Int)/\∀ (i:Nat) t,i<p->l[i]?=some t->CK 65536 65536 t 0/\size t<=4096
theorem afN (hK:aZ K)(n m:Nat)(l:List T)(hm:2*n+20<=m)(hs:bO l<=n)(hn:n<=100000000)(bt:∀ t∈l,BT t):
  ∃ v h',cS K m (.fn 23 [] []) [.ls (l.map enc)] .no h=some (.ret v,.no,h')/\(∃ b,v=.bool b/\(b=true->∀ t∈l,CK 65536 65536 t 0/\size t<=4096))/\HK h h':=by
 obtain⟨m,rfl⟩:∃ k,m=k+1:=⟨m-1,o_⟩
 have hlk:=bP l;refine bh hK aj5 (ae (pY l h) (aC _)) ?_;have ret:∀ (tm:Tm) (b:Bool) (H:AH),HK h H->nth tm 2=.bool b->(b=true->∀ t∈l,CK 65536 65536 t 0/\size t<=4096)->IQ aaR (fun v h2=>∃ v' h3,cG v h2=(v',h3)/\(∃ b,v'=.bool b/\(b=true->∀ t∈l,CK 65536 65536 t 0/\size t<=4096))/\HK h h3) .ret ⟨tm,⟨[],.no,none,23⟩⟩ H:=fun tm b H hk t2 hb=>
  ⟨rfl,rfl,.inr rfl,[.bool b],by simp only[go_sem,simprocAttr,aaR,t2],.bool b,_,aS (by intro l e;cases e) (aW _ _),⟨_,rfl,hb⟩,hk⟩
 obtain⟨v,H1,e1,⟨b,rfl⟩,k1⟩:=c6 hK n m l h o_ hs hn bt;unfold ahg;simp only[go_sem,simprocAttr,NR,e1];cases b with
 |false=>
  simp only[go_sem,simprocAttr];exact ret _ false H1 k1 k_ (by simp)
 |true=>
  simp only[go_sem,simprocAttr,NS,L_];refine bB (I1023 l h) l.length o_ ⟨_,0,z_ _,rfl,k1,k_,k_,k_,fun i t hi=>by omega⟩ ?_;rintro j fr H ⟨tm,p,hp,rfl,hk,t8,t9,t10,pre⟩;unfold Qs;simp only[go_sem,simprocAttr,t9,t10,NU];refine aX (fun hlt=>?_) (fun hge=>?_)
  ·have hlt:p<l.length:=o_;have hget:l[p]?=some l[p]:=a_ hlt;have ha:=fun h=>aK bJ hget .i64 h
   have ele:=dN l[p];have hsm:=cL (m_ hget);have hb:=bt _ (m_ hget);revert hget ha ele hsm hb;generalize l[p]=x;intro hget ha ele hsm hb;have hw:=aP p o_;have hst:=du (h:=H.new (.box [i_ 0,i_ 0,.str (bs []),.nl,.nl])) (k:=H.z) (aE _ _) x;obtain⟨H2,hH2⟩:∃ H2:AH,H2=(H.new (.box [i_ 0,i_ 0,.str (bs []),.nl,.nl])).set H.z (.box (aJ x)):=⟨_,rfl⟩
   have k2:HK H H2:=by rw[hH2];exact HK.new_set _ _ _
   have g2:H2.get H.z=some (.box (aJ x)):=by rw[hH2,aH]
   rw[<- hH2]at hst;clear hH2;obtain⟨v,H3,e3,⟨e,rfl,he⟩,k3⟩:=c7 (h:=H2) hK 65536 8 65536 65536 n m x o_ o_ hn hb;rw[aU x]at e3;unfold aJ at g2;have hk3:=(hk.trans k2).trans k3;simp only[go_sem,simprocAttr,NW,t8,t10,ha,ele,hst,NX,g2,e3];by_cases h0:e=0
   ·have d0:decide (e=0)=true:=T_ h0;simp only[go_sem,simprocAttr,d0,t10,hw];refine⟨j-1,o_,_,p+1,o_,rfl,hk3,q_ t8,q_ t9,k_,fun i t hi ht=>?_⟩;by_cases q:i=p
    ·subst q;rw[hget]at ht;cases ht;exact he h0
    ·exact pre i t o_ ht
   ·have d0:decide (e=0)=false:=D_ h0;simp only[go_sem,simprocAttr,d0];exact ret _ false H3 hk3 k_ (by simp)
  ·simp only[go_sem,simprocAttr,NT];refine ret _ true H hk k_ fun _ t ht=>?_
   obtain⟨i,hi⟩:=List.getElem?_of_mem ht;exact pre i t (by have:=(E_.1 hi).1;omega) hi
end
deriving instance DecidableEq for LV
theorem Dd (x y:LV):qJ (bV x) .neq (.struct [(0,1),(1,1)]) (bV y)=some (.bool (!decide (x=y))):=by
 have e:∀ i j:Int,cN 1 (i_ i) (i_ j)=some (decide (i=j)):=dI
 show aD (aD (cN 1 (i_ x.idx) (i_ y.idx)) fun s=>cond s (aD (cN 1 (i_ x.plus) (i_ y.plus)) fun s=>cond s (some true) (some false)) (some false)) (fun b=>some (AV.bool (!b)))=_;rw[e,e,aI];have hx:(x=y)↔(x.idx=y.idx/\x.plus=y.plus):=by cases x;cases y;simp
 by_cases h1:x.idx=y.idx
 ·rw[T_ h1,cond_true,aI];by_cases h2:x.plus=y.plus
  ·rw[T_ h2,T_ (hx.2 ⟨h1,h2⟩)];rfl
  ·rw[D_ h2,D_ (fun q=>h2 (hx.1 q).2)];rfl
 ·rw[D_ h1,D_ (fun q=>h1 (hx.1 q).1)];rfl
theorem jJ {α:Type}{a b:List α}(hl:a.length=b.length)(h:∀ (i:Nat),i<a.length->a[i]?=b[i]?):a=b:=by
 apply List.ext_getElem? ;intro i;by_cases q:i<a.length
 ·exact h i q
 ·rw[List.getElem?_eq_none o_,List.getElem?_eq_none o_]
section
variable {K:aQ}{h:AH}
def I58 (x y:LL)(b:Nat)(h1:AH)(j:Nat)(fr:AF)(h:AH):Prop:=∃ tm p,p+j=x.vars.length/\fr=⟨tm,⟨[],.no,none,93⟩⟩/\h=h1/\nth tm 2=.ptr b 0 0/\nth tm 3=.ptr (b+1) 0 0/\nth tm 5=i_ (p:Int)/\∀ (i:Nat),i<p->x.vars[i]?=y.vars[i]?
theorem c58 (hK:aZ K)(m:Nat)(x y:LL)(hx:x.vars.length<10000000)(hy:y.vars.length<10000000):
  ∃ v h',cS K (m+1) (.fn 93 [] []) [ba x,ba y] .no h=some (.ret v,.no,h')/\(∃ b,v=.bool b/\(b=true↔x=y))/\HK h h':=by
 refine bh hK cf58 (ae (jz x h) (ae (jz y h) (aC _))) ?_;obtain⟨H,hH⟩:∃ H:AH,H=(h.new (.box [i_ x.c,.ls (x.vars.map bV)])).new (.box [i_ y.c,.ls (y.vars.map bV)]):=⟨_,rfl⟩
 have n1:=ala h (.box [i_ x.c,.ls (x.vars.map bV)]);have k0:HK h H:=by rw[hH];exact(HK.new _ _).add _
 have g2:H.get h.z=some (.box [i_ x.c,.ls (x.vars.map bV)]):=by rw[hH,aL o_,aE]
 have g3:H.get (h.z+1)=some (.box [i_ y.c,.ls (y.vars.map bV)]):=by rw[hH,<- n1,aE]
 have ret:∀ (tm:Tm) (b:Bool),nth tm 4=.bool b->(b=true↔x=y)->IQ r58 (fun v h2=>∃ v' h3,cG v h2=(v',h3)/\(∃ b,v'=.bool b/\(b=true↔x=y))/\HK h h3) .ret ⟨tm,⟨[],.no,none,93⟩⟩ H:=fun tm b t4 hb=>
  ⟨rfl,rfl,.inr rfl,[.bool b],by simp only[go_sem,simprocAttr,r58,t4],.bool b,_,aS (by intro l e;cases e) (aW _ _),⟨_,rfl,hb⟩,k0⟩
 unfold b58;simp only[go_sem,simprocAttr,pB,n1];rw[<- hH];clear hH;by_cases a1:x.c=y.c
 case neg=>
  have d1:decide (x.c=y.c)=false:=D_ a1;simp only[go_sem,simprocAttr,Tx,g2,g3,d1];exact ret _ false k_ ⟨by simp,fun q=>absurd (by rw[q]) a1⟩
 have d1:decide (x.c=y.c)=true:=T_ a1;by_cases a2:(x.vars.length:Int)=(y.vars.length:Int)
 case neg=>
  have d2:decide ((x.vars.length:Int)=(y.vars.length:Int))=false:=D_ a2;simp only[go_sem,simprocAttr,Tx,g2,g3,d1,L_,d2];exact ret _ false k_ ⟨by simp,fun q=>absurd (by rw[q]) a2⟩
 have d2:decide ((x.vars.length:Int)=(y.vars.length:Int))=true:=T_ a2;simp only[go_sem,simprocAttr,Tx,g2,g3,d1,L_,d2,aew];refine bB (I58 x y h.z H) x.vars.length o_ ⟨_,0,z_ _,rfl,rfl,k_,k_,k_,fun i hi=>by omega⟩ ?_;rintro j fr H2 ⟨tm,p,hp,rfl,rfl,t2,t3,t5,pre⟩;unfold afW;simp only[go_sem,simprocAttr,t2,t5,g2,L_];refine aX (fun hlt=>?_) (fun hge=>?_)
 ·have hlt:p<x.vars.length:=o_;have hgx:x.vars[p]?=some x.vars[p]:=a_ hlt;have hgy:y.vars[p]?=some (y.vars[p]'o_):=a_ o_;have hax:=fun h=>aK cV hgx .i64 h
  have hay:=fun h=>aK cV hgy .i64 h
  have elx:=gi x.vars[p];have ely:=gi (y.vars[p]'o_);have hbn:=Dd x.vars[p] (y.vars[p]'o_);have hw:=aP p o_;simp only[go_sem,simprocAttr,aey,t2,t3,t5,g2,g3,hax,hay,elx,ely,hbn];by_cases he:x.vars[p]=y.vars[p]'o_
  ·have d3:decide (x.vars[p]=y.vars[p]'o_)=true:=T_ he;simp only[go_sem,simprocAttr,d3,t5,hw];refine⟨j-1,o_,_,p+1,o_,rfl,rfl,q_ t2,q_ t3,k_,fun i hi=>?_⟩;by_cases q:i=p
   ·subst q;rw[hgx,hgy,he]
   ·exact pre i o_
  ·have d3:decide (x.vars[p]=y.vars[p]'o_)=false:=D_ he;simp only[go_sem,simprocAttr,d3];refine ret _ false k_ ⟨by simp,fun q=>?_⟩;subst q;exact absurd rfl he
 ·have hpp:p=x.vars.length:=o_;subst hpp;simp only[go_sem,simprocAttr,aex];refine ret _ true k_ ⟨fun _=>?_,by simp⟩;have:=jJ o_ pre;cases x;cases y;simp_all
def I47 (x y:List LL)(h0:AH)(j:Nat)(fr:AF)(h:AH):Prop:=∃ tm p,p+j=x.length/\fr=⟨tm,⟨[],.no,none,55⟩⟩/\HK h0 h/\nth tm 0=.ls (x.map ba)/\nth tm 1=.ls (y.map ba)/\nth tm 5=i_ (p:Int)/\∀ (i:Nat),i<p->x[i]?=y[i]?
theorem c47 (hK:aZ K)(m:Nat)(x y:List LL)(hx:x.length<10000000)(hy:y.length<10000000)(bx:∀ l∈x,l.vars.length<10000000)(by_:∀ l∈y,l.vars.length<10000000):
  ∃ v h',cS K (m+2) (.fn 55 [] []) [.ls (x.map ba),.ls (y.map ba)] .no h=some (.ret v,.no,h')/\(∃ b,v=.bool b/\(b=true↔x=y))/\HK h h':=by
 refine bh hK cf47 (ae (pZ x h) (ae (pZ y h) (aC _))) ?_;have ret:∀ (tm:Tm) (b:Bool) (H:AH),HK h H->nth tm 4=.bool b->(b=true↔x=y)->IQ r47 (fun v h2=>∃ v' h3,cG v h2=(v',h3)/\(∃ b,v'=.bool b/\(b=true↔x=y))/\HK h h3) .ret ⟨tm,⟨[],.no,none,55⟩⟩ H:=fun tm b H hk t4 hb=>
  ⟨rfl,rfl,.inr rfl,[.bool b],by simp only[go_sem,simprocAttr,r47,t4],.bool b,_,aS (by intro l e;cases e) (aW _ _),⟨_,rfl,hb⟩,hk⟩
 unfold b47;by_cases a2:(x.length:Int)=(y.length:Int)
 case neg=>
  have d2:decide ((x.length:Int)=(y.length:Int))=false:=D_ a2;simp only[go_sem,simprocAttr,aaa,L_,d2];exact ret _ false h (HK.refl h) k_ ⟨by simp,fun q=>absurd (by rw[q]) a2⟩
 have d2:decide ((x.length:Int)=(y.length:Int))=true:=T_ a2;simp only[go_sem,simprocAttr,aaa,L_,d2,aez];refine bB (I47 x y h) x.length o_ ⟨_,0,z_ _,rfl,HK.refl h,k_,k_,k_,fun i hi=>by omega⟩ ?_;rintro j fr H2 ⟨tm,p,hp,rfl,hk,t0,t1,t5,pre⟩;unfold afX;simp only[go_sem,simprocAttr,t0,t5,L_];refine aX (fun hlt=>?_) (fun hge=>?_)
 ·have hlt:p<x.length:=o_;have hgx:x[p]?=some x[p]:=a_ hlt;have hgy:y[p]?=some (y[p]'o_):=a_ o_;have hax:=fun h=>aK eC hgx .i64 h
  have hay:=fun h=>aK eC hgy .i64 h
  have elx:=jb x[p];have ely:=jb (y[p]'o_);have hw:=aP p o_;obtain⟨v,H3,e3,⟨b,rfl,hb⟩,k3⟩:=c58 (h:=H2) hK m x[p] (y[p]'o_) (bx _ (m_ hgx)) (by_ _ (m_ hgy));simp only[go_sem,simprocAttr,aeB,t0,t1,t5,hax,hay,elx,ely,e3];cases b with
  |true=>
   simp only[go_sem,simprocAttr,t5,hw];refine⟨j-1,o_,_,p+1,o_,rfl,hk.trans k3,q_ t0,q_ t1,k_,fun i hi=>?_⟩;by_cases q:i=p
   ·subst q;rw[hgx,hgy,hb.1 rfl]
   ·exact pre i o_
  |false=>
   simp only[go_sem,simprocAttr];refine ret _ false H3 (hk.trans k3) k_ ⟨by simp,fun q=>?_⟩;subst q;exact absurd (hb.2 rfl) (by simp)
 ·have hpp:p=x.length:=o_;subst hpp;simp only[go_sem,simprocAttr,aeA];exact ret _ true H2 hk k_ ⟨fun _=>jJ o_ pre,by simp⟩
structure BN (n:NV):Prop where
 ls:n.L.length<10000000
 vs:∀ l∈n.L,l.vars.length<10000000
 ks:n.K.length<10000000
def I1079 (x y:NV)(b:Nat)(h1:AH)(j:Nat)(fr:AF)(h:AH):Prop:=∃ tm p,p+j=x.K.length/\fr=⟨tm,⟨[],.no,none,79⟩⟩/\h=h1/\nth tm 2=.ptr b 0 0/\nth tm 3=.ptr (b+1) 0 0/\nth tm 5=i_ (p:Int)/\∀ (i:Nat),i<p->x.K[i]?=y.K[i]?
theorem aa5 (n:NV)(h:AH):dB h 5 (aT n)=.val (.ptr h.z 0 0) (h.new (.box [i_ n.kind,i_ n.idx,.str n.name,.ls (n.L.map ba),.ls (n.K.map AG.aO)])):=bN _ 5 rfl
theorem aa3 (hK:aZ K)(m:Nat)(x y:NV)(bx:BN x)(by_:BN y):
  ∃ v h',cS K (m+3) (.fn 79 [] []) [aT x,aT y] .no h=some (.ret v,.no,h')/\(∃ b,v=.bool b/\(b=true↔x=y))/\HK h h':=by
 refine bh hK ajD (ae (jT x h) (ae (jT y h) (aC _))) ?_;obtain⟨H,hH⟩:∃ H:AH,H=(h.new (.box [i_ x.kind,i_ x.idx,.str x.name,.ls (x.L.map ba),.ls (x.K.map AG.aO)])).new (.box [i_ y.kind,i_ y.idx,.str y.name,.ls (y.L.map ba),.ls (y.K.map AG.aO)]):=⟨_,rfl⟩
 have n1:=ala h (.box [i_ x.kind,i_ x.idx,.str x.name,.ls (x.L.map ba),.ls (x.K.map AG.aO)]);have k0:HK h H:=by rw[hH];exact(HK.new _ _).add _
 have n0:H.z=h.z+2:=by rw[hH,ala,n1]
 have g2:H.get h.z=some (.box [i_ x.kind,i_ x.idx,.str x.name,.ls (x.L.map ba),.ls (x.K.map AG.aO)]):=by rw[hH,aL o_,aE]
 have g3:H.get (h.z+1)=some (.box [i_ y.kind,i_ y.idx,.str y.name,.ls (y.L.map ba),.ls (y.K.map AG.aO)]):=by rw[hH,<- n1,aE]
 have ret:∀ (tm:Tm) (b:Bool) (H:AH),HK h H->nth tm 4=.bool b->(b=true↔x=y)->IQ aaH (fun v h2=>∃ v' h3,cG v h2=(v',h3)/\(∃ b,v'=.bool b/\(b=true↔x=y))/\HK h h3) .ret ⟨tm,⟨[],.no,none,79⟩⟩ H:=fun tm b H hk t4 hb=>
  ⟨rfl,rfl,.inr rfl,[.bool b],by simp only[go_sem,simprocAttr,aaH,t4],.bool b,_,aS (by intro l e;cases e) (aW _ _),⟨_,rfl,hb⟩,hk⟩
 unfold agO;simp only[go_sem,simprocAttr,aa5,n1];rw[<- hH];clear hH;by_cases a1:x.kind=y.kind
 case neg=>
  have d1:decide (x.kind=y.kind)=false:=D_ a1;simp only[go_sem,simprocAttr,nR,g2,g3,d1];exact ret _ false H k0 k_ ⟨by simp,fun q=>absurd (by rw[q]) a1⟩
 have d1:decide (x.kind=y.kind)=true:=T_ a1;by_cases a2:x.idx=y.idx
 case neg=>
  have d2:decide (x.idx=y.idx)=false:=D_ a2;simp only[go_sem,simprocAttr,nR,g2,g3,d1,d2];exact ret _ false H k0 k_ ⟨by simp,fun q=>absurd (by rw[q]) a2⟩
 have d2:decide (x.idx=y.idx)=true:=T_ a2;by_cases a3:x.name=y.name
 case neg=>
  have d3:decide (x.name=y.name)=false:=D_ a3;simp only[go_sem,simprocAttr,nR,g2,g3,d1,d2,db,d3];exact ret _ false H k0 k_ ⟨by simp,fun q=>absurd (by rw[q]) a3⟩
 have d3:decide (x.name=y.name)=true:=T_ a3;obtain⟨v,H3,e3,⟨b,rfl,hb⟩,k3⟩:=c47 (h:=H) hK m x.L y.L bx.ls by_.ls bx.vs by_.vs;have g23:=(k3.kw _ o_).trans g2;have g33:=(k3.kw _ o_).trans g3;cases b with
 |false=>
  simp only[go_sem,simprocAttr,nR,g2,g3,d1,d2,db,d3,e3];exact ret _ false H3 (k0.trans k3) k_ ⟨by simp,fun q=>absurd (hb.2 (by rw[q])) (by simp)⟩
 |true=>
  have hls:=hb.1 rfl;by_cases a4:(x.K.length:Int)=(y.K.length:Int)
  case neg=>
   have d4:decide ((x.K.length:Int)=(y.K.length:Int))=false:=D_ a4;simp only[go_sem,simprocAttr,nR,g2,g3,d1,d2,db,d3,e3,g23,g33,L_,d4];exact ret _ false H3 (k0.trans k3) k_ ⟨by simp,fun q=>absurd (by rw[q]) a4⟩
  have d4:decide ((x.K.length:Int)=(y.K.length:Int))=true:=T_ a4;simp only[go_sem,simprocAttr,nR,g2,g3,d1,d2,db,d3,e3,g23,g33,L_,d4,LK];have hk:=bx.ks;refine bB (I1079 x y h.z H3) x.K.length o_ ⟨_,0,z_ _,rfl,rfl,k_,k_,k_,fun i hi=>by omega⟩ ?_;rintro j fr H2 ⟨tm,p,hp,rfl,rfl,t2,t3,t5,pre⟩;unfold Qc;simp only[go_sem,simprocAttr,t2,t5,g23,L_];refine aX (fun hlt=>?_) (fun hge=>?_)
  ·have hlt:p<x.K.length:=o_;have hgx:x.K[p]?=some x.K[p]:=a_ hlt;have hgy:y.K[p]?=some (y.K[p]'o_):=a_ o_;have hax:=fun h=>aK (f:=AG.aO) (sz:=1) (fun _=>rfl) hgx .i64 h
   have hay:=fun h=>aK (f:=AG.aO) (sz:=1) (fun _=>rfl) hgy .i64 h
   have elx:=cu x.K[p];have ely:=cu (y.K[p]'o_);simp only[AG.aO]at elx ely;have hw:=aP p o_;by_cases he:x.K[p]=y.K[p]'o_
   ·have d5:decide (x.K[p]=y.K[p]'o_)=true:=T_ he;simp only[go_sem,simprocAttr,AQ,t2,t3,t5,g23,g33,hax,hay,AG.aO,elx,ely,d5,hw];refine⟨j-1,o_,_,p+1,o_,rfl,rfl,q_ t2,q_ t3,k_,fun i hi=>?_⟩;by_cases q:i=p
    ·subst q;rw[hgx,hgy,he]
    ·exact pre i o_
   ·have d5:decide (x.K[p]=y.K[p]'o_)=false:=D_ he;simp only[go_sem,simprocAttr,AQ,t2,t3,t5,g23,g33,hax,hay,AG.aO,elx,ely,d5];refine ret _ false _ (k0.trans k3) k_ ⟨by simp,fun q=>?_⟩;subst q;exact absurd rfl he
  ·have hpp:p=x.K.length:=o_;subst hpp;simp only[go_sem,simprocAttr,LM];refine ret _ true _ (k0.trans k3) k_ ⟨fun _=>?_,by simp⟩;have hks:=jJ o_ pre;cases x;cases y;simp_all
end
structure Wf (gs:List NV)(ts:List T):Prop where
 len:ts.length=gs.length
 node:∀ (i:Nat) n,gs[i]?=some n->∃ ks,ts[i]?=some (ndT n ks)/\Lk ts n.K ks/\∀ c∈n.K,c<(i:Int)
 tok:∀ t∈ts,TOK t
 nd:ts.Nodup
theorem Wf.wg {gs:List NV}{ts:List T}(w:Wf gs ts)(h:gs.length<=65536):Wg (Mst gs ts) where
 len:=w.len
 lenF:=by show(ts.map eD).length=_;rw[L_];exact w.len
 most:=h
 node:=w.node
 free i t h:=by
  have h:ts[i]?=some t:=h;show(ts.map eD)[i]?=_;rw[List.getElem?_map,h];rfl
 tok:=w.tok
 nd:=w.nd
theorem Wf.nil:Wf [] []:=⟨rfl,fun i n h=>by simp at h,by simp,by simp⟩
theorem Wf.add {gs:List NV}{ts:List T}(w:Wf gs ts){n:NV}{ks:List T}(lk:Lk ts n.K ks)(ht:TOK (ndT n ks))(hn:n ∉ gs):Wf (gs++[n]) (ts++[ndT n ks]) where
 len:=by simp[w.len]
 node i x hx:=by
  rcases Nat.lt_or_ge i gs.length with h|h
  ·rw[List.getElem?_append_left h]at hx;obtain⟨k2,e,l2,lt⟩:=w.node i x hx;exact⟨k2,by rw[List.getElem?_append_left (by rw[w.len];exact h)];exact e,l2.app,lt⟩
  ·rw[List.getElem?_append_right h]at hx;have:i-gs.length=0:=by
    rcases Nat.eq_zero_or_pos (i-gs.length) with q|q
    ·exact q
    ·rw[List.getElem?_eq_none (by simp;omega)]at hx;cases hx
   rw[this]at hx;cases hx;have hi:i=gs.length:=o_;subst hi;refine⟨ks,by rw[<- w.len];simp,lk.app,fun c hc=>?_⟩;obtain⟨j,hj⟩:=List.getElem?_of_mem hc;obtain⟨t,_,a⟩:=lk.get hj;have:=a.lt;have:=w.len;omega
 tok t ht':=by
  rcases List.mem_append.1 ht' with q|q
  ·exact w.tok t q
  ·simp only[List.mem_singleton]at q;subst q;exact ht
 nd:=by
  rw[List.nodup_append];refine⟨w.nd,by simp,fun a ha b hb e=>?_⟩;simp only[List.mem_singleton]at hb;subst hb;subst e;obtain⟨i,hi⟩:=List.getElem?_of_mem ha;have hl:i<gs.length:=by rw[<- w.len];exact(E_.1 hi).1
  obtain⟨nv,hnv⟩:∃ nv,gs[i]?=some nv:=⟨_,a_ hl⟩
  obtain⟨k2,e2,l2,_⟩:=w.node i nv hnv;rw[hi]at e2;have e3:=Option.some.inj e2;unfold ndT at e3;injection e3 with e4 e5 e6 e7 e8;subst e8;have hk:=lk.inj w.nd l2;have:n=nv:=by cases n;cases nv;simp_all
  exact hn (this▸m_ hnv)
theorem Wf.bn {gs:List NV}{ts:List T}(w:Wf gs ts)(bt:∀ t∈ts,BT t):∀ n∈gs,BN n:=by
 intro n hn;obtain⟨i,hi⟩:=List.getElem?_of_mem hn;obtain⟨ks,e,lk,_⟩:=w.node i n hi;have b:=bt _ (m_ e);have tok:=w.tok _ (m_ e);refine⟨b.ln,b.ls,?_⟩;have hk:(n.K.length:Int)=dW n.kind:=by rw[lk.len];unfold ndT TOK at tok;exact tok.1.K
 unfold dW at hk;split at hk
 ·omega
 ·split at hk
  ·omega
  ·split at hk<;>omega
section
variable {K:aQ}{h:AH}
def I1136 (gs:List NV)(n:NV)(b:Nat)(h0:AH)(j:Nat)(fr:AF)(h:AH):Prop:=∃ tm p,p+j=gs.length/\fr=⟨tm,⟨[],.no,none,136⟩⟩/\HK h0 h/\b+1<h.z/\h.get b=some (.box [.ls (gs.map aT)])/\h.get (b+1)=some (.box [i_ n.kind,i_ n.idx,.str n.name,.ls (n.L.map ba),.ls (n.K.map AG.aO)])/\
 nth tm 2=.ptr b 0 0/\nth tm 3=.ptr (b+1) 0 0/\nth tm 5=i_ (p:Int)/\∀ (i:Nat) x,i<p->gs[i]?=some x->x≠n
theorem c1136 (hK:aZ K)(m:Nat)(gs:List NV)(n:NV)(hl:gs.length<1000000)(bg:∀ x∈gs,BN x)(bn:BN n):
  ∃ v h',cS K (m+4) (.fn 136 [] []) [.agg [.ls (gs.map aT)],aT n] .no h=some (.ret v,.no,h')/\(∃ e:Int,v=i_ e/\((e<0/\n ∉ gs)∨(0<=e/\gs[e.toNat]?=some n)))/\HK h h':=by
 refine bh hK aje (ae (iA gs h) (ae (jT n h) (aC _))) ?_;have hb:∀ H:AH,dB H 1 (.agg [.ls (gs.map aT)])=.val (.ptr H.z 0 0) (H.new (.box [.ls (gs.map aT)])):=fun H=>bN _ 1 rfl
 obtain⟨H,hH⟩:∃ H:AH,H=(h.new (.box [.ls (gs.map aT)])).new (.box [i_ n.kind,i_ n.idx,.str n.name,.ls (n.L.map ba),.ls (n.K.map AG.aO)]):=⟨_,rfl⟩
 have n1:=ala h (.box [.ls (gs.map aT)]);have k0:HK h H:=by rw[hH];exact(HK.new _ _).add _
 have n0:H.z=h.z+2:=by rw[hH,ala,n1]
 have g2:H.get h.z=some (.box [.ls (gs.map aT)]):=by rw[hH,aL o_,aE]
 have g3:H.get (h.z+1)=some (.box [i_ n.kind,i_ n.idx,.str n.name,.ls (n.L.map ba),.ls (n.K.map AG.aO)]):=by rw[hH,<- n1,aE]
 unfold agp;simp only[go_sem,simprocAttr,hb,aa5,n1];rw[<- hH];clear hH;simp only[go_sem,simprocAttr,Ka];refine bB (I1136 gs n h.z h) gs.length o_ ⟨_,0,z_ _,rfl,k0,o_,g2,g3,k_,k_,k_,fun i x hi=>by omega⟩ ?_;rintro j fr H2 ⟨tm,p,hp,rfl,hk,hn,g2,g3,t2,t3,t5,pre⟩;unfold PH;simp only[go_sem,simprocAttr,t2,t5,g2,L_];refine aX (fun hlt=>?_) (fun hge=>?_)
 ·have hlt:p<gs.length:=o_;have hget:gs[p]?=some gs[p]:=a_ hlt;have ha:=fun h=>aK lj hget .i64 h
  have hl5:∀ h:AH,cj (.vptr (aT gs[p])) h true 5=some (aT gs[p]):=fun h=>cI rfl rfl h
  have hw:=aP p o_;obtain⟨v,H3,e3,⟨b,rfl,hbb⟩,k3⟩:=aa3 (h:=H2) hK m gs[p] n (bg _ (m_ hget)) bn;have hv:∀ n:NV,aT n=.agg [i_ n.kind,i_ n.idx,.str n.name,.ls (n.L.map ba),.ls (n.K.map AG.aO)]:=fun _=>rfl
  have nx:=k3.z;rw[hv gs[p]]at hl5 e3 ha;rw[hv n]at e3;simp only[go_sem,simprocAttr,Kc,t2,t3,t5,g2,g3,ha,hl5,e3];cases b with
  |true=>
   simp only[go_sem,simprocAttr];exact⟨rfl,rfl,.inr rfl,[i_ (p:Int)],by simp only[go_sem,simprocAttr,aas,t5],i_ (p:Int),_,aS (by intro l e;cases e) (aG _ _ _),⟨_,rfl,.inr ⟨o_,by rw[Int.toNat_natCast,hget,hbb.1 rfl]⟩⟩,hk.trans k3⟩
  |false=>
   simp only[go_sem,simprocAttr,t5,hw];refine⟨j-1,o_,_,p+1,o_,rfl,hk.trans k3,o_,(k3.kw _ o_).trans g2,(k3.kw _ o_).trans g3,q_ t2,q_ t3,k_,fun i x hi hx=>?_⟩;by_cases q:i=p
   ·subst q;rw[hget]at hx;cases hx;exact fun q=>absurd (hbb.2 q) (by simp)
   ·exact pre i x o_ hx
 ·simp only[go_sem,simprocAttr,Kb];refine⟨rfl,rfl,.inr rfl,[i_ (-1)],by simp only[go_sem,simprocAttr,aas],i_ (-1),_,aS (by intro l e;cases e) (aG _ _ _),⟨_,rfl,.inl ⟨o_,fun hm=>?_⟩⟩,hk⟩;obtain⟨i,hi⟩:=List.getElem?_of_mem hm;exact pre i n (by have:=(E_.1 hi).1;omega) hi rfl
end
