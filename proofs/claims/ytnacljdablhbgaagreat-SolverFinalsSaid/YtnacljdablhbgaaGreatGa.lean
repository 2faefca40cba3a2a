/- SolverFinals: calls whose arguments and results are in one form (no condition). -/
import Derived.Test.YtnacljdablhbgaaGreatBc
import Derived.Test.YtnacljdablhbgaaGreatDa
namespace Go.Proofs.YtnacljdablhbgaaGreat
open Go.AG
noncomputable def EG:AG.Env:=Fm Tryz.prog tx (fun _=>false)
theorem hEG:oK CI EG:=Ay Tryz.prog tx _ acz GU
theorem cfG {f:FuncId}{x:Option tC}(e:EF.cf f=x):EG.cf f=x:=e
theorem tw (f:FuncId):EG.pure f=false:=rfl
def niL:List Nat:=[205,103]
def noL:List Nat:=[148,103]
def Dm:List Nat:=[205,148,103,74,158,155,149,102,150,244,203,279,118,157,207,247,248,249,250,251,252,280,85,89,90,127,101,60,61,62,63,64,65,66,104,105,106,107,108,110,111,112,113,114,160,161,162,152,153,154,156,206,22,23,19,5,81,122,124,245,131,204,130,88,84,25,68,109,159]
structure bW (K:aG):Prop where
 fn:∀f,f∈Dm->∀c a rc h,K (.fn f [] c) a rc h=none
 yld:∀l a rc h,K (.yld l) a rc h=none
noncomputable def cS (K:aG)(m:Nat):aG:=nN K EG 60000 niL noL m
theorem cS_ok {K:aG}(hk:bM CI K)(m:Nat):bM CI (cS K m):=zw hEG hk 60000 niL noL m
structure HK (h h':AH):Prop where
 z:h.z<=h'.z
 kw:∀k,k<h.z->h'.get k=h.get k
theorem HK.refl (h:AH):HK h h:=⟨Fv _,fun _ _=>rfl⟩
theorem HK.trans {a b c:AH}(x:HK a b)(y:HK b c):HK a c:=⟨Nat.le_trans x.z y.z,fun k hk=>(y.kw k (Nat.lt_of_lt_of_le hk x.z)).trans (x.kw k hk)⟩
theorem HK.new (h:AH)(o:eI):HK h (h.new o):=⟨by rw[ci];omega,fun k hk=>aJ (by omega)⟩
theorem HK.set {h0 h:AH}(x:HK h0 h){j:Nat}(o:eI)(hj:h0.z<=j):HK h0 (h.set j o):=⟨by rw[co];exact x.z,fun k hk=>by rw[an (by omega)];exact x.kw k hk⟩
theorem HK.add {h0 h:AH}(x:HK h0 h)(o:eI):HK h0 (h.new o):=x.trans (HK.new h o)
section
variable {K:aG}{m:Nat}{f:Nat}{c a a':List AV}{h h1 h2 h3:AH}{v v':AV}
theorem zO (hK:bW K)(e0:iP a h=(a',h1))(hf:f∈Dm)(hn:niL.contains f=false):cS K (m+1) (.fn f [] c) a .no h=cond (noL.contains f) (dZ EG (cS K m) 60000 f (a'++c) .no h1) (tX (dZ EG (cS K m) 60000 f (a'++c) .no h1)):=
 qS e0 (show fidIn niL (.fn f [] c)=false from hn) (hK.fn f hf c a' .no h1)
theorem CT (hK:bW K)(hf:f∈Dm)(hn:niL.contains f=true):cS K (m+1) (.fn f [] c) a .no h=cond (noL.contains f) (dZ EG (cS K m) 60000 f (a++c) .no h) (tX (dZ EG (cS K m) 60000 f (a++c) .no h)):=
 NU (show fidIn niL (.fn f [] c)=true from hn) (hK.fn f hf c a .no h)
theorem cm (hK:bW K){nt:Nat}{rs:List bF}{body:aw}{P:AV->AH->Prop}(hcf:EF.cf f=some ⟨nt,rs,body⟩)(e0:iP a h=(a',h1))
  (hR:R (cS K m) 60000 [.code body] (IQ rs fun v h2=>∃v' h3,gT v h2=(v',h3)/\P v' h3) .normal ⟨bn (a'++c),⟨[],.no,none,f⟩⟩ h1)
  (hf:f∈Dm:=by decide) (hn:niL.contains f=false:=by decide) (ho:noL.contains f=false:=by decide):∃v h',cS K (m+1) (.fn f [] c) a .no h=some (.ret v,.no,h')/\P v h':=by
 obtain⟨v,h2,e,v',h3,e3,hP⟩:=nw (cfG hcf) (tw f) hR;exact⟨v',h3,by rw[zO hK e0 hf hn,ho,cond_false,e,nW e3],hP⟩
theorem Yo (hK:bW K){nt:Nat}{rs:List bF}{body:aw}{P:AV->AH->Prop}(hcf:EF.cf f=some ⟨nt,rs,body⟩)(e0:iP a h=(a',h1))
  (hR:R (cS K m) 60000 [.code body] (IQ rs P) .normal ⟨bn (a'++c),⟨[],.no,none,f⟩⟩ h1)
  (hf:f∈Dm:=by decide) (hn:niL.contains f=false:=by decide) (ho:noL.contains f=true:=by decide):∃v h',cS K (m+1) (.fn f [] c) a .no h=some (.ret v,.no,h')/\P v h':=by
 obtain⟨v,h2,e,hP⟩:=nw (cfG hcf) (tw f) hR;exact⟨v,h2,by rw[zO hK e0 hf hn,ho,cond_true,e],hP⟩
theorem ad3 (hK:bW K){nt:Nat}{rs:List bF}{body:aw}{P:AV->AH->Prop}(hcf:EF.cf f=some ⟨nt,rs,body⟩)
  (hR:R (cS K m) 60000 [.code body] (IQ rs fun v h2=>∃v' h3,gT v h2=(v',h3)/\P v' h3) .normal ⟨bn (a++c),⟨[],.no,none,f⟩⟩ h)
  (hf:f∈Dm:=by decide) (hn:niL.contains f=true:=by decide) (ho:noL.contains f=false:=by decide):∃v h',cS K (m+1) (.fn f [] c) a .no h=some (.ret v,.no,h')/\P v h':=by
 obtain⟨v,h2,e,v',h3,e3,hP⟩:=nw (cfG hcf) (tw f) hR;exact⟨v',h3,by rw[CT hK hf hn,ho,cond_false,e,nW e3],hP⟩
theorem Yp (hK:bW K){nt:Nat}{rs:List bF}{body:aw}{P:AV->AH->Prop}(hcf:EF.cf f=some ⟨nt,rs,body⟩)
  (hR:R (cS K m) 60000 [.code body] (IQ rs P) .normal ⟨bn (a++c),⟨[],.no,none,f⟩⟩ h)
  (hf:f∈Dm:=by decide) (hn:niL.contains f=true:=by decide) (ho:noL.contains f=true:=by decide):∃v h',cS K (m+1) (.fn f [] c) a .no h=some (.ret v,.no,h')/\P v h':=by
 obtain⟨v,h2,e,hP⟩:=nw (cfG hcf) (tw f) hR;exact⟨v,h2,by rw[CT hK hf hn,ho,cond_true,e],hP⟩
theorem dP (e0:iP a h=(a',h1))(e:K (.fn f [] c) a' .no h1=some (.ret v,.no,h1))(hv:gT v h1=(v,h1))(m:Nat)(hn:niL.contains f=false:=by decide):cS K m (.fn f [] c) a .no h=some (.ret v,.no,h1):=
 ur e0 (show fidIn niL (.fn f [] c)=false from hn) e hv
theorem vZ (e0:iP a h=(a',h1))(e1:iP a' h1=(a',h1))(hn:niL.contains f=false:=by decide):cS K m (.fn f [] c) a .no h=cS K m (.fn f [] c) a' .no h1:=Xj e0 e1 (show fidIn niL (.fn f [] c)=false from hn)
end
theorem yR {a b:AV}(e:a.norm=b)(hb:b.free=true):a.free=true:=by rw[<-oy,e];exact hb
theorem iG {a:AV}{t:T}(e:a.norm=enc t)(h:AH):eT a h=(enc t,h):=by rw[dG (yR e (cH t)),e]
theorem aP (t:T)(h:AH):eT (enc t) h=(enc t,h):=iG (bL t) h
theorem iL (l:List T)(h:AH):eT (.ls (l.map enc)) h=(.ls (l.map enc),h):=by
 rw[dG (show(AV.ls (l.map enc)).free=true by simp only[AV.free];exact eE l)];simp only[AV.norm,cu]
theorem kG (l:List LL)(h:AH):eT (.ls (l.map aK)) h=(.ls (l.map aK),h):=by
 rw[dG (show(AV.ls (l.map aK)).free=true by simp only[AV.free];exact cL de l)];simp only[AV.norm,dN fY l]
theorem tA (l:LL)(h:AH):eT (aK l) h=(aK l,h):=by
 rw[dG (de l),fY]
theorem lB {k i:Int}{nm:ByteArray}{ls:List LL}{ks:List T}{x4 x5:AV}(h4:x4.norm=.ls (ls.map aK))(h5:x5.norm=.ls (ks.map enc)):(AV.agg [wt k,wt i,.str nm,x4,x5]).norm=enc (.mk k i nm ls ks):=by
 rw[ei];simp only[AV.norm,AV.ip,h4,h5]
def gB (f:T):List T->T
 |[]=>f
 |a::l=>gB (.mk 4 0 (bs []) [] [f,a]) l
theorem tr (f:T)(l:List T)(a:T):gB f (l++[a])=.mk 4 0 (bs []) [] [gB f l,a]:=by
 induction l generalizing f with
 |nil=>rfl
 |cons b l ih=>simp only[List.cons_append,gB,ih]
theorem iW (i j:Nat)(x y:AX)(tm:Tm)(sz:Nat):cr [(i,x),(j,y)] tm sz=[(i*sz,sz,ev x tm),(j*sz,sz,ev y tm)]:=(rfl)
theorem oA (h:AH)(a b c d e a2 b2 c2 d2 e2 a' b' c' d' e':AV):iS true true 5 [a',b',c',d',e'] 2 [(0,5,.agg [a,b,c,d,e]),(5,5,.agg [a2,b2,c2,d2,e2])] h=.val (.clip [.agg [a,b,c,d,e],.agg [a2,b2,c2,d2,e2]]) h:=(rfl)
theorem CV (h:AH)(a b c d e:AV)(k':IntKind)(y:Int)(l:List AV):cP h [a,b,c,d,e] [(0,1,.int k' y),(4,1,.clip l)]=.val (.agg [.int k' y,b,c,d,.clip l]) h:=(rfl)
theorem vN (l:List Int)(h:AH):eT (.ls (l.map dF)) h=(.ls (l.map dF),h):=by
 have e1:AV.jp (l.map dF)=true:=cL (fun _=>rfl) l;rw[dG (show(AV.ls (l.map dF)).free=true by simp only[AV.free];exact e1)];simp only[AV.norm,dN (fun i=>(rfl:(dF i).norm=dF i)) l]
theorem Wa (t:T):T.mk t.kind t.i t.name t.L t.K=t:=by cases t;rfl
theorem ir {t:T}{x4 x5:AV}(h4:x4.norm=.ls (t.L.map aK))(h5:x5.norm=.ls (t.K.map enc)):(AV.agg [wt t.kind,wt t.i,.str t.name,x4,x5]).norm=enc t:=by
 rw[lB h4 h5,Wa]
def FF (h:AH)(k:Nat)(t:T):Prop:=∃x4 x5,h.get k=some (.box [wt t.kind,wt t.i,.str t.name,x4,x5])/\x4.norm=.ls (t.L.map aK)/\x5.norm=.ls (t.K.map enc)
theorem eC (l:List LL):(AV.ls (l.map aK)).norm=.ls (l.map aK):=by simp only[AV.norm,fB]
theorem eL (l:List T):(AV.ls (l.map enc)).norm=.ls (l.map enc):=by simp only[AV.norm,cu]
theorem FF.kw {h h':AH}{k:Nat}{t:T}(b:FF h k t)(e:h'.get k=h.get k):FF h' k t:=by
 obtain⟨x4,x5,b1,b2,b3⟩:=b;exact⟨x4,x5,e.trans b1,b2,b3⟩
theorem NS {f a:T}{x4 x5:AV}(hx4:x4.norm=.ls (f.L.map aK))(hx5:x5.norm=.ls (f.K.map enc)):
  (AV.clip [.agg [wt f.kind,wt f.i,.str f.name,x4,x5],.agg [wt a.kind,wt a.i,.str a.name,.ls (a.L.map aK),.ls (a.K.map enc)]]).norm=.ls (([f,a]:List T).map enc):=by
 show(AV.ls (AV.ip _))=_;simp only[pe,sy,ir hx4 hx5,ir (eC _) (eL _),List.map_cons,List.map_nil]
theorem FF.app {h:AH}{k:Nat}{f a:T}{x4 x5:AV}(hx4:x4.norm=.ls (f.L.map aK))(hx5:x5.norm=.ls (f.K.map enc)):
  FF (h.set k (.box [wt 4,wt 0,.str (bs []),.nl,.clip [.agg [wt f.kind,wt f.i,.str f.name,x4,x5],.agg [wt a.kind,wt a.i,.str a.name,.ls (a.L.map aK),.ls (a.K.map enc)]]])) k (.mk 4 0 (bs []) [] [f,a]):=
 ⟨_,_,aC _ _ _,rfl,NS hx4 hx5⟩
structure J74 (az:List T)(f:T)(h0 h:AH)(m:Nat):Prop where
 b2:FF h h0.z (gB f (az.take m))
 b4:h.get (h0.z+1)=some (.box [wt 0,wt 0,.str (bs []),.nl,.nl])
 kw:HK h0 h
 nx:h0.z+2<=h.z
theorem J74.step {az:List T}{f:T}{h0 h h':AH}{m:Nat}(J:J74 az f h0 h m){a:T}(ha:az[m]?=some a)(hk:HK h h'){o:eI}(hb:FF (h'.set h0.z o) h0.z (.mk 4 0 (bs []) [] [gB f (az.take m),a])):
  J74 az f h0 (h'.set h0.z o) (m+1):=by
 have et:az.take (m+1)=az.take m++[a]:=by rw[List.take_add_one,ha];rfl
 have n0:=J.nx;refine⟨?_,by rw[an (by omega),hk.kw _ (by omega)];exact J.b4,(J.kw.trans hk).set _ (Fv _),by rw[co];exact Nat.le_trans J.nx hk.z⟩;rw[et,tr];exact hb
theorem J74.init (az:List T)(f:T)(h:AH):J74 az f h ((h.new (.box [wt f.kind,wt f.i,.str f.name,.ls (f.L.map aK),.ls (f.K.map enc)])).new (.box [wt 0,wt 0,.str (bs []),.nl,.nl])) 0:=by
 refine⟨⟨_,_,?_,eC _,eL _⟩,?_,(HK.new _ _).add _,by simp only[ci];omega⟩
 ·rw[aJ (by rw[ci];omega),aE];rfl
 ·rw[<-ci h (.box [wt f.kind,wt f.i,.str f.name,.ls (f.L.map aK),.ls (f.K.map enc)]),aE]
def I74 (az:List T)(f:T)(h0:AH)(j:Nat)(fr:AF)(h:AH):Prop:=∃tm m,m+j=az.length/\fr=⟨tm,⟨[],.no,none,74⟩⟩/\
 nth tm 1=.ls (az.map enc)/\nth tm 2=.ptr h0.z 0 0/\nth tm 4=.ptr (h0.z+1) 0 0/\nth tm 5=wt (m:Int)/\J74 az f h0 h m
theorem c74 {K:aG}(hK:bW K)(m:Nat)(f:T)(az:List T)(h:AH)(hl:az.length<30000):
  ∃v h',cS K (m+1) (.fn 74 [] []) [enc f,.ls (az.map enc)] .no h=some (.ret v,.no,h')/\v=enc (gB f az)/\HK h h':=by
 refine cm hK cf74 (ae (aP _ _) (ae (iL _ _) (aB _))) ?_;simp only[wab];rw[aA f];unfold b74;have J0:=J74.init az f h;simp only[go_sem,simprocAttr,ZN];refine bD (I74 az f h) az.length (by omega) ⟨_,0,wac _,rfl,by simp only[go_sem,simprocAttr],by simp only[go_sem,simprocAttr],by simp only[go_sem,simprocAttr,ci],by simp only[go_sem,simprocAttr],J0⟩ ?_;rintro j fr H ⟨tm,p,hp,rfl,t1,t2,t4,t5,J⟩;obtain⟨x4,x5,g2,n4,n5⟩:=J.b2;have nx:=J.nx;unfold abM;simp only[go_sem,simprocAttr,t1,t5];refine bj (fun hlt=>?_) (fun hge=>?_)
 ·have hlt:p<az.length:=by omega
  have hget:az[p]?=some az[p]:=wO hlt;have ha:=fun h=>aN aZ hget .i64 h
  have hep:=aA az[p];have hw:=aM p (by omega);simp only[go_sem,simprocAttr,ZP,t1,t2,t5,g2,ha,hep,iW,oA,CV,hw];exact⟨j-1,by omega,_,p+1,by omega,rfl,by simp only[go_sem,simprocAttr, *],by simp only[go_sem,simprocAttr, *],by simp only[go_sem,simprocAttr, *],by simp only[go_sem,simprocAttr, *],J.step hget (HK.refl _) (FF.app n4 n5)⟩
 ·have:p=az.length:=by omega
  subst this;rw[List.take_length]at g2 n4 n5;have g4:=J.b4;have hne:¬h.z=h.z+1:=by omega
  simp only[go_sem,simprocAttr,ZO,t2,t4,g2,g4];refine⟨rfl,rfl,.inr rfl,[.agg [_,_,_,_,_]],by simp only[go_sem,simprocAttr,r74,t4],_,_,cC (by intro l e;cases e) (iG (ir n4 n5) _),rfl,J.kw.set _ (by omega)⟩
def I158 (az:List T)(f:T)(h0:AH)(j:Nat)(fr:AF)(h:AH):Prop:=∃tm m,m+j=az.length/\fr=⟨tm,⟨[],.no,none,158⟩⟩/\
 nth tm 7=.ls (az.map enc)/\nth tm 8=wt (az.length:Int)/\nth tm 2=.ptr h0.z 0 0/\nth tm 4=.ptr (h0.z+1) 0 0/\nth tm 9=wt (m:Int)/\J74 az f h0 h m
theorem c158 {K:aG}(hK:bW K)(m:Nat)(f:T)(az:List T)(h:AH)(hl:az.length<30000):
  ∃v h',cS K (m+1) (.fn 158 [] []) [enc f,.ls (az.map enc)] .no h=some (.ret v,.no,h')/\v=enc (gB f az)/\HK h h':=by
 refine cm hK cf158 (ae (aP _ _) (ae (iL _ _) (aB _))) ?_;simp only[wab];rw[aA f];unfold b158;have J0:=J74.init az f h;simp only[go_sem,simprocAttr,Rp];refine bD (I158 az f h) az.length (by omega) ⟨_,0,wac _,rfl,by simp only[go_sem,simprocAttr],by simp only[go_sem,simprocAttr],by simp only[go_sem,simprocAttr],by simp only[go_sem,simprocAttr,ci],by simp only[go_sem,simprocAttr],J0⟩ ?_;rintro j fr H ⟨tm,p,hp,rfl,t7,t8,t2,t4,t9,J⟩;obtain⟨x4,x5,g2,n4,n5⟩:=J.b2;have nx:=J.nx;unfold Uc;simp only[go_sem,simprocAttr,Rs,t8,t9];refine bj (fun hlt=>?_) (fun hge=>?_)
 ·have hlt:p<az.length:=by omega
  have hget:az[p]?=some az[p]:=wO hlt;have ha:=fun h=>aN aZ hget .i64 h
  have hep:=aA az[p];have hw:=aM p (by omega);have n1:¬h.z=H.z:=by omega
  have n2:¬H.z=h.z:=by omega
  simp only[go_sem,simprocAttr,Rt,t2,t7,t9,g2,ha,hep,iW,oA,CV,hw,n1];refine⟨j-1,by omega,_,p+1,by omega,rfl,by simp only[go_sem,simprocAttr, *],by simp only[go_sem,simprocAttr, *],by simp only[go_sem,simprocAttr, *],by simp only[go_sem,simprocAttr, *],by simp only[go_sem,simprocAttr, *],J.step hget ?_ (FF.app n4 n5)⟩;exact((HK.refl _).add _).set _ (by omega)
 ·have:p=az.length:=by omega
  subst this;rw[List.take_length]at g2 n4 n5;have g4:=J.b4;have hne:¬h.z=h.z+1:=by omega
  simp only[go_sem,simprocAttr,Rq,t2,t4,g2,g4];refine⟨rfl,rfl,.inr rfl,[.agg [_,_,_,_,_]],by simp only[go_sem,simprocAttr,r158,t4],_,_,cC (by intro l e;cases e) (iG (ir n4 n5) _),rfl,J.kw.set _ (by omega)⟩
def aD:T->T×List T
 |.mk k i nm ls [f,a]=>if k=4 then ((aD f).1,(aD f).2++[a]) else (.mk k i nm ls [f,a],[])
 |.mk k i nm ls ks=>(.mk k i nm ls ks,[])
termination_by t=>size t
decreasing_by all_goals (simp only[size,aW];omega)
theorem ko (i:Int)(nm:ByteArray)(ls:List LL)(f a:T):aD (.mk 4 i nm ls [f,a])=((aD f).1,(aD f).2++[a]):=by
 rw[aD,wae rfl]
theorem jn {k:Int}(hk:k≠4)(i:Int)(nm:ByteArray)(ls:List LL)(ks:List T):aD (.mk k i nm ls ks)=(.mk k i nm ls ks,[]):=by
 match ks with
 |[]=>rw[aD];intro f a e;cases e
 |[f]=>rw[aD];intro f a e;cases e
 |[f,a]=>rw[aD,wad hk]
 |f::a::b::l=>rw[aD];intro f a e;cases e
theorem jo {ks:List T}(hk:ks.length≠2)(k i:Int)(nm:ByteArray)(ls:List LL):aD (.mk k i nm ls ks)=(.mk k i nm ls ks,[]):=by
 match ks with
 |[]=>rw[aD];intro f a e;cases e
 |[f]=>rw[aD];intro f a e;cases e
 |[f,a]=>exact absurd rfl hk
 |f::a::b::l=>rw[aD];intro f a e;cases e
theorem mo:∀(n:Nat) (t:T),size t<=n->size (aD t).1+aW (aD t).2+(aD t).2.length=size t:=by
 intro n;induction n with
 |zero=>intro t h;have:=cG t;omega
 |succ n ih=>
  intro t h;obtain⟨k,i,nm,ls,ks⟩:=t;by_cases hk:k=4
  ·by_cases hl:ks.length=2
   ·match ks,hl with
    |[f,a],_=>
     subst hk;rw[ko];have e:size (.mk 4 i nm ls [f,a])=1+(size f+(size a+0)):=by simp only[size,aW]
     rw[e]at h ⊢;have h1:=ih f (by omega);have h2:aW ((aD f).2++[a])=aW (aD f).2+size a:=by
      generalize (aD f).2=l;induction l with
      |nil=>simp[aW]
      |cons b l ih=>simp only[List.cons_append,aW,ih];omega
     simp only[h2,List.length_append,List.length_cons,List.length_nil];omega
   ·rw[jo hl];simp[aW]
  ·rw[jn hk];simp[aW]
theorem JM (t:T):(aD t).2.length<=size t:=by
 have:=mo _ t (Fv _);omega
theorem rO (t:T)(h:AH)(a' b' c' d' e':AV):iS true true 5 [a',b',c',d',e'] 1 [(0,5,enc t)] h=.val (.clip [enc t]) h:=by rw[aA];rfl
theorem gh (t:T):(enc t).lies=true:=by rw[aA];rfl
theorem sO (t:T):AV.beq (.clip [enc t]) (.clip [enc t])=true:=by
 have:=mW t;simp[AV.beq,AV.beqs,this]
theorem c148 {K:aG}(hK:bW K):∀(n:Nat) (t:T) (m:Nat) (h:AH),size t<=n->n<=m->size t<=50000->
  ∃v h',cS K m (.fn 148 [] []) [enc t] .no h=some (.ret v,.no,h')/\∃V,v=.tup [enc (aD t).1,V]/\Own h.z 5 true h' V ((aD t).2.map enc)/\HK h h':=by
 intro n;induction n with
 |zero=>intro t m h hn;have:=cG t;omega
 |succ n ih=>
  intro t m h hn hm hb;obtain⟨m,rfl⟩:∃m',m=m'+1:=⟨m-1,by omega⟩
  obtain⟨k,i,nm,ls,ks⟩:=t;refine Yo hK cf148 (ae (aP _ _) (aB _)) ?_;simp only[wab];rw[ei];unfold b148;simp only[go_sem,simprocAttr];obtain⟨H,hH⟩:∃H:AH,H=((h.new (.box [wt k,wt i,.str nm,.ls (ls.map aK),.ls (ks.map enc)])).new (.box [wt 0,wt 0,.str (bs []),.nl,.nl])):=⟨_,rfl⟩
  rw[<-hH];have k0:HK h H:=by subst hH;exact(HK.new _ _).add _
  have n0:H.z=h.z+2:=by subst hH;simp only[ci]
  have g1:H.get h.z=some (.box [wt k,wt i,.str nm,.ls (ls.map aK),.ls (ks.map enc)]):=by subst hH;rw[aJ (by rw[ci];omega),aE]
  have g2:H.get (h.z+1)=some (.box [wt 0,wt 0,.str (bs []),.nl,.nl]):=by
   subst hH;rw[<-ci h (.box [wt k,wt i,.str nm,.ls (ls.map aK),.ls (ks.map enc)]),aE]
  clear hH;have hlen:=bE ks;have hsz:size (.mk k i nm ls ks)=1+aW ks:=by simp only[size]
  simp only[go_sem,simprocAttr,RO,ci,g1];by_cases hk:k=4
  ·subst hk;by_cases hl:ks.length=2
   ·match ks,hl with
    |[f,a],_=>
     have hsf:size (.mk 4 i nm ls [f,a])=1+(size f+(size a+0)):=by simp only[size,aW]
     have ha:∀h,cz (.ls ([f,a].map enc)) h 5 (wt 0)=.val (.vptr (enc f)) h:=fun h=>aN (ks:=[f,a]) (m:=0) aZ rfl .i64 h
     have hb:∀h,cz (.ls ([f,a].map enc)) h 5 (wt 1)=.val (.vptr (enc a)) h:=fun h=>aN (ks:=[f,a]) (m:=1) aZ rfl .i64 h
     simp only[List.map_cons,List.map_nil]at ha hb g1;obtain⟨v,h2,e2,V,rfl,ho,hk2⟩:=ih f m H (by omega) (by omega) (by omega);have hxb:=fI (cH (aD f).1);rw[aA (aD f).1]at e2 hxb;generalize hx4:(AV.ls ((aD f).1.L.map aK))=x4 at e2 hxb;generalize hx5:(AV.ls ((aD f).1.K.map enc))=x5 at e2 hxb;have n2:=hk2.z;have g1':=(hk2.kw h.z (by omega)).trans g1;have g2':=(hk2.kw (h.z+1) (by omega)).trans g2;have h22:decide (((2:Nat):Int)=2)=true:=rfl;simp only[go_sem,simprocAttr,RP,g1,ha,e2];obtain⟨H3,hH3⟩:∃H3:AH,H3=(h2.new (.box [wt 0,wt 0,.str (bs []),.nl,.nl])).set h2.z (.box [wt (aD f).1.kind,wt (aD f).1.i,.str (aD f).1.name,x4,x5]):=⟨_,rfl⟩
     rw[<-hH3];have k3:HK h2 H3:=by subst hH3;exact(HK.new _ _).set _ (Fv _)
     have m1:=(k3.kw h.z (by omega)).trans g1';have m2:=(k3.kw (h.z+1) (by omega)).trans g2';have m3:H3.get h2.z=some (.box [wt (aD f).1.kind,wt (aD f).1.i,.str (aD f).1.name,x4,x5]):=by subst hH3;rw[aC]
     have n3:H3.z=h2.z+1:=by subst hH3;simp only[co,ci]
     have o3:Own H.z 5 true H3 V ((aD f).2.map enc):=bp ho k3.z (fun a _ q=>k3.kw a q);clear hH3;have hl1:=JM f;obtain⟨V',H4,e4,o4,n4,k4,_,_,kk4,_⟩:=cV (bytes:=80) (x:=enc a) (z:=[wt 0,wt 0,.str (bs []),.nl,.nl]) o3 (by omega) rfl (aZ a) (fu a) (gh a) (by rw[waa];omega) (by decide);have r2:=(k4 (h.z+1) (by omega)).trans m2;have r3:H4.get h2.z=some (.box [wt (aD f).1.kind,wt (aD f).1.i,.str (aD f).1.name,x4,x5]):=by
      rw[kk4 h2.z (by omega) (fun g n e=>?_)]
      ·exact m3
      ·obtain⟨_,⟨q,_⟩|⟨k',g',q,_,q2,_⟩⟩:=ho
       ·rw[q]at e;cases e
       ·rw[q]at e;injection e with e;omega
     simp only[go_sem,simprocAttr,RQ,hxb,m1,hb,m3,e4,r3,r2,rO];refine⟨rfl,rfl,.inr rfl,[.agg [_,_,_,_,_],V'],by simp only[go_sem,simprocAttr,acs];rfl,V',?_,?_,?_⟩
     ·rw[ko,aA (aD f).1,hx4,hx5];rfl
     ·rw[ko,List.map_append];obtain⟨p1,p2⟩:=o4;refine⟨p1,?_⟩;rcases p2 with q|⟨k,g,q1,q2,q3,q4⟩
      ·exact .inl q
      ·exact .inr ⟨k,g,q1,by rw[an (by omega)];exact q2,by rw[co];exact q3,by omega⟩
     ·exact HK.set ⟨by omega,fun k hk=>(k4 k (by omega)).trans ((((k0.trans hk2).trans k3)).kw k hk)⟩ _ (by omega)
   ·have:decide ((ks.length:Int)=2)=false:=by simp;omega
    simp only[go_sem,simprocAttr,this,g1,g2];refine⟨rfl,rfl,.inr rfl,[.agg [_,_,_,_,_],.nl],by simp only[go_sem,simprocAttr,acs];rfl,.nl,?_,?_,k0.set _ (by omega)⟩
    ·rw[jo hl,ei];rfl
    ·rw[jo hl];exact fD _ _ _ _
  ·have:decide (k=4)=false:=by simpa using hk
   simp only[go_sem,simprocAttr,this,g1,g2];refine⟨rfl,rfl,.inr rfl,[.agg [_,_,_,_,_],.nl],by simp only[go_sem,simprocAttr,acs];rfl,.nl,?_,?_,k0.set _ (by omega)⟩
   ·rw[jn hk,ei];rfl
   ·rw[jn hk];exact fD _ _ _ _
theorem rP {sz:Nat}: ∀{out:List AV} {a:Nat} {x:AV},(∀y∈out,y.cells.length=sz)->out[a]?=some x->((flat out).drop (a*sz)).take sz=x.cells
 |y::l,0,x,h,e=>by
  cases e;rw[bO,Nat.zero_mul,List.drop_zero];exact List.take_left' (h y (by simp))
 |y::l,a+1,x,h,e=>by
  have hy:=h y (by simp);rw[bO,Nat.succ_mul,Nat.add_comm,<-hy,<-List.drop_drop,List.drop_left' rfl,hy];exact rP (fun z hz=>h z (by simp[hz])) e
theorem LJ {x:AV}(h:x.isAgg=true):AV.agg x.cells=x:=by cases x<;>simp[AV.isAgg,AV.cells]at h ⊢
theorem si {kk g n a:Nat}(ha:a<n)(H:AH)(k:IntKind):cz (.row kk g 5 0 n) H 5 (.int k (a:Int))=.val (.ptr kk g (a*5)) H:=by
 show okV (cond (Nat.beq 5 5) (aq (aq (some a) fun m=>cond (Nat.blt m n) (some m) none) fun n=>some (.ptr kk g (Nat.mul (Nat.add 0 n) 5))) none) H=_;have hb:Nat.blt a n=true:=Nat.ble_eq_true_of_le ha;rw[aF,hb];show OpR.val (.ptr kk g (Nat.mul (Nat.add 0 a) 5)) H=_;congr 2;show(0+a)*5=a*5;rw[wac]
theorem vi {kk g a fz:Nat}{h:AH}{out:List AV}{x:AV}(hk:h.get kk=some (.row g 5 true (flat out) fz))(ho:∀x∈out,x.cells.length=5/\x.isAgg=true)(ha:out[a]?=some x):dH (.ptr kk g (a*5)) h true 5=some x:=by
 have hl:a<out.length:=(wah.1 ha).1;rw[jz,hk,aF];show cond (Nat.beq g g) (pN true 5 (a*5) (flat out)) none=_;have hfl:=gY (fun y hy=>(ho y hy).1);rw[fN,cond_true,tN _ _ _ (by rw[hfl];omega),rP (fun y hy=>(ho y hy).1) ha,LJ (ho x (wS ha)).2]
theorem xv {kk g a:Nat}{h:AH}{out:List AV}{x:AV}(hk:h.get kk=some (.row g 5 true (flat out) 0))(ho:∀x∈out,x.cells.length=5/\x.isAgg=true)(ha:a<out.length)(h1:x.cells.length=5)(h3:x.lies=true):
  cR (.ptr kk g (a*5)) h 5 x=some (h.set kk (.row g 5 true (flat (out.set a x)) 0)):=by
 have hfl:=gY (fun y hy=>(ho y hy).1);rw[eF _ _ _ _ h3 h1,hk,aF];show aq (cond (and (Nat.beq g g) (and (Nat.ble 0 (a*5)) (Nat.ble (a*5+len x.cells) (len (flat out))))) (some (eI.row g 5 true (setR (a*5) x.cells (flat out)) 0)) none) _=_;rw[fN,bH,bH,gj (show a*5+x.cells.length<=(flat out).length by rw[hfl,h1];omega),nY h1 (fun y hy=>(ho y hy).1) ha];rfl
theorem jA (l:List T):∀x∈l.map enc,x.cells.length=5/\x.isAgg=true:=by
 intro x hx;obtain⟨t,_,rfl⟩:=List.mem_map.1 hx;exact⟨aZ t,fu t⟩
theorem zL {l:List T}{a:Nat}{t:T}(h:l[a]?=some t):(l.map enc)[a]?=some (enc t):=by rw[List.getElem?_map,h];rfl
theorem WM {base:Nat}{h:AH}{V:AV}{out:List AV}(o:Own base 5 true h V out)(hne:0<out.length):∃kk g,V=.row kk g 5 0 out.length/\h.get kk=some (.row g 5 true (flat out) 0)/\kk<h.z/\base<=kk:=by
 obtain⟨_,⟨_,rfl⟩|⟨kk,g,q1,q2,q3,q4⟩⟩:=o
 ·simp at hne
 ·exact⟨kk,g,q1,q2,q3,q4⟩
structure Rv (l cur:List T)(m:Nat):Prop where
 len:cur.length=l.length
 get:∀i,i<l.length->cur[i]?=if i<m∨l.length<=i+m then l[l.length-1-i]? else l[i]?
theorem Rv.zero (l:List T):Rv l l 0:=⟨rfl,fun i hi=>by rw[wad (by omega)]⟩
theorem Rv.step {l cur:List T}{m:Nat}(r:Rv l cur m)(hm:2*m+1<l.length){x y:T}(hx:cur[m]?=some x)(hy:cur[l.length-1-m]?=some y):Rv l ((cur.set m y).set (l.length-1-m) x) (m+1):=by
 have r1:=r.len;refine⟨by simp[r1],fun i hi=>?_⟩;have gx:=r.get m (by omega);rw[wad (by omega),hx]at gx;have gy:=r.get (l.length-1-m) (by omega);rw[wad (by omega),hy]at gy;rw[List.getElem?_set,List.getElem?_set];by_cases h1:l.length-1-m=i
 ·subst h1;rw[wae rfl,wae (by simp[r1];omega),wae (by omega),gx];congr 1;omega
 ·rw[wad h1];by_cases h2:m=i
  ·subst h2;rw[wae rfl,wae (by omega),wae (by omega),gy]
  ·rw[wad h2,r.get i hi];by_cases h3:i<m∨l.length<=i+m
   ·rw[wae h3,wae (by omega)]
   ·rw[wad h3,wad (by omega)]
theorem Rv.fin {l cur:List T}{m:Nat}(r:Rv l cur m)(hm:l.length<=2*m+1):cur=l.reverse:=by
 apply List.ext_getElem?;intro i;rcases Nat.lt_or_ge i l.length with hi|hi
 ·rw[r.get i hi,List.getElem?_reverse hi];by_cases h:i<m∨l.length<=i+m
  ·rw[wae h]
  ·rw[wad h];have:i=l.length-1-i:=by omega
   rw[<-this]
 ·rw[List.getElem?_eq_none (by rw[r.len];exact hi),List.getElem?_eq_none (by simpa using hi)]
def I205 (l:List T)(V:AV)(base:Nat)(h0:AH)(j:Nat)(fr:AF)(h:AH):Prop:=∃tm m cur,m+j=l.length/\fr=⟨tm,⟨[],.no,none,205⟩⟩/\
 nth tm 0=V/\nth tm 2=wt (m:Int)/\nth tm 3=wt ((l.length:Int)-1-m)/\Rv l cur m/\Own base 5 true h V (cur.map enc)/\h.z=h0.z/\∀k,k<base->h.get k=h0.get k
theorem c205 {K:aG}(hK:bW K)(m:Nat)(l:List T)(V:AV)(base:Nat)(h:AH)(o:Own base 5 true h V (l.map enc))(hl:l.length<50000):
  ∃v h',cS K (m+1) (.fn 205 [] []) [V] .no h=some (.ret v,.no,h')/\v=.tup []/\Own base 5 true h' V (l.reverse.map enc)/\h'.z=h.z/\∀k,k<base->h'.get k=h.get k:=by
 refine ad3 hK cf205 ?_;simp only[wab];have hlen:=zl o;rw[waa]at hlen;have hw:IntKind.wrap .i64 ((l.length:Int)-1)=(l.length:Int)-1:=br _ (by omega) (by omega);unfold b205;simp only[go_sem,simprocAttr,hlen,hw];refine bD (I205 l V base h) l.length (by omega) ⟨_,0,l,wac _,rfl,by simp only[go_sem,simprocAttr],by simp only[go_sem,simprocAttr],by simp only[go_sem,simprocAttr];omega,Rv.zero l,o,rfl,fun _ _=>rfl⟩ ?_;rintro j fr H ⟨tm,p,cur,hp,rfl,t0,t2,t3,r,o',hn,hk⟩;have rl:=r.len;unfold TU;simp only[go_sem,simprocAttr,t2,t3];refine bj (fun hlt=>?_) (fun hge=>?_)
 ·have hlt:2*p+1<l.length:=by omega
  obtain⟨kk,g,hV,q2,q3,q4⟩:=WM o' (by rw[waa];omega);rw[waa,rl]at hV;subst hV;obtain⟨x,hx⟩:∃x,cur[p]?=some x:=⟨_,wO (by omega)⟩
  obtain⟨y,hy⟩:∃y,cur[l.length-1-p]?=some y:=⟨_,wO (by omega)⟩
  have ej:(l.length:Int)-1-p=((l.length-1-p:Nat):Int):=by omega
  have i1:=fun H=>si (kk:=kk) (g:=g) (n:=l.length) (a:=p) (by omega) H .i64
  have i2:=fun H=>si (kk:=kk) (g:=g) (n:=l.length) (a:=l.length-1-p) (by omega) H .i64
  have l1:=vi q2 (jA cur) (zL hx);have l2:=vi q2 (jA cur) (zL hy);have s1:=xv (x:=enc y) (a:=p) q2 (jA cur) (by rw[waa];omega) (aZ y) (gh y);have e1:(cur.map enc).set p (enc y)=(cur.set p y).map enc:=(List.map_set ..).symm;rw[e1]at s1;have q5:(H.set kk (.row g 5 true (flat ((cur.set p y).map enc)) 0)).get kk=some (.row g 5 true (flat ((cur.set p y).map enc)) 0):=aC _ _ _;have s2:=xv (x:=enc x) (a:=l.length-1-p) q5 (jA _) (by rw[waa,List.length_set];omega) (aZ x) (gh x);have e2:((cur.set p y).map enc).set (l.length-1-p) (enc x)=((cur.set p y).set (l.length-1-p) x).map enc:=(List.map_set ..).symm;rw[e2]at s2;have hw1:=aM p (by omega);have hw2:IntKind.wrap .i64 (((l.length-1-p:Nat):Int)-1)=(l.length:Int)-1-((p+1:Nat):Int):=by rw[br _ (by omega) (by omega)];omega
  simp only[go_sem,simprocAttr,QC,t0,t2,t3,ej,i1,i2,l1,l2,s1,s2,hw1,hw2];refine⟨j-1,by omega,_,p+1,(cur.set p y).set (l.length-1-p) x,by omega,rfl,by simp only[go_sem,simprocAttr, *],by simp only[go_sem,simprocAttr, *],by simp only[go_sem,simprocAttr, *],r.step hlt hx hy,⟨jA _,.inr ⟨kk,g,?_,aC _ _ _,?_,q4⟩⟩,?_,?_⟩
  ·simp[rl]
  ·rw[co,co];exact q3
  ·rw[co,co];exact hn
  ·intro k hk';rw[an (by omega),an (by omega)];exact hk k hk'
 ·have hge:l.length<=2*p+1:=by omega
  simp only[go_sem,simprocAttr];refine⟨rfl,rfl,.inl rfl,[],rfl,.tup [],H,bG (aB _),rfl,?_,hn,hk⟩;rw[<-r.fin hge];exact o'
theorem Is {base:Nat}{h:AH}{V:AV}{l:List T}(o:Own base 5 true h V (l.map enc)):∃h',eT V h=(.ls (l.map enc),h')/\h'.z=h.z/\∀k,k<base->h'.get k=h.get k:=by
 rcases own_shut o (fun h=>by cases h) with⟨rfl,e,_⟩|⟨k,g,e1,e2,e3,e4⟩
 ·rw[List.map_eq_nil_iff]at e;subst e;exact⟨h,oC h,rfl,fun _ _=>rfl⟩
 ·refine⟨h.set k (.row g 5 true (flat (l.map enc)) ((l.map enc).length*5)),?_,co _ _ _,fun k' hk=>an (by omega)⟩;have:nD V h=fS V h:=by rw[e1];rfl
  rw[eT,this,e2];show(AV.ls (AV.ip _),_)=_;rw[cu]
def au (t:T):List AV:=[wt t.kind,wt t.i,.str t.name,.ls (t.L.map aK),.ls (t.K.map enc)]
theorem cN (t:T):enc t=.agg (au t):=aA t
theorem aQ {h:AH}{k:Nat}{a b c d e:AV}(g:h.get k=some (.box [a,b,c,d,e]))(t:T):cR (.ptr k 0 0) h 5 (enc t)=some (h.set k (.box (au t))):=by
 rw[aA];simp only[go_sem,simprocAttr,g];rfl
structure J155 (t:T)(h0 h:AH)(c:T)(V:AV)(out:List T):Prop where
 b1:h.get h0.z=some (.box (au c))
 b2:h.get (h0.z+1)=some (.box [wt 0,wt 0,.str (bs []),.nl,.nl])
 own:Own (h0.z+2) 5 true h V (out.map enc)
 kw:HK h0 h
 nx:h0.z+2<=h.z
 sp:aD t=((aD c).1,(aD c).2++out.reverse)
 sz:size c+out.length<=size t
def I155 (t:T)(h0:AH)(j:Nat)(fr:AF)(h:AH):Prop:=∃tm c V out,j=size c/\fr=⟨tm,⟨[],.no,none,155⟩⟩/\nth tm 1=.ptr h0.z 0 0/\nth tm 2=.ptr (h0.z+1) 0 0/\nth tm 4=V/\J155 t h0 h c V out
theorem c155 {K:aG}(hK:bW K)(m:Nat)(t:T)(h:AH)(hl:size t<50000):
  ∃v h',cS K (m+2) (.fn 155 [] []) [enc t] .no h=some (.ret v,.no,h')/\v=.tup [enc (aD t).1,.ls ((aD t).2.map enc)]/\HK h h':=by
 refine cm hK cf155 (ae (aP _ _) (aB _)) ?_;simp only[wab];rw[aA t];unfold b155;simp only[go_sem,simprocAttr];obtain⟨H,hH⟩:∃H:AH,H=((h.new (.box [wt t.kind,wt t.i,.str t.name,.ls (t.L.map aK),.ls (t.K.map enc)])).new (.box [wt 0,wt 0,.str (bs []),.nl,.nl])):=⟨_,rfl⟩
 have J0:J155 t h H t .nl []:=by
  have J:=J74.init [] t h;rw[<-hH]at J;exact⟨by subst hH;rw[aJ (by rw[ci];omega),aE];rfl,J.b4,fD _ _ _ _,J.kw,J.nx,by simp,by simp⟩
 rw[<-hH];clear hH;simp only[go_sem,simprocAttr,Rz,RA,ci];refine bD (I155 t h) (size t) (by omega) ⟨_,t,.nl,[],rfl,rfl,by simp only[go_sem,simprocAttr],by simp only[go_sem,simprocAttr],by simp only[go_sem,simprocAttr],J0⟩ ?_;rintro j fr H1 ⟨tm,c,V,out,rfl,rfl,t1,t2,t4,J⟩;have g1:=J.b1;have g2:=J.b2;have o:=J.own;unfold au at g1;have nx:=J.nx;have szc:=J.sz;have hend:∀tm,nth tm 1=.ptr h.z 0 0->nth tm 2=.ptr (h.z+1) 0 0->nth tm 4=V->aD c=(c,[])->
   R (cS K (m+1)) 60000 [.code Gi] (IQ aeA fun v h2=>∃v' h3,gT v h2=(v',h3)/\v'=.tup [enc (aD t).1,.ls ((aD t).2.map enc)]/\HK h h3) .normal ⟨tm,⟨[],.no,none,155⟩⟩ H1:=by
  intro tm t1 t2 t4 hs;have sp:=J.sp;rw[hs]at sp;obtain⟨v,H2,e2,rfl,o2,n2,k2⟩:=c205 hK m out V (h.z+2) H1 o (by omega);have g1':=(k2 h.z (by omega)).trans g1;have g2':=(k2 (h.z+1) (by omega)).trans g2;have hne:¬h.z=h.z+1:=by omega
  simp only[go_sem,simprocAttr,Gi,RB,t1,t2,t4,e2,g1',g2'];have n1:=J.kw.z;obtain⟨H3,e3,n3,k3⟩:=Is (bp (h':=H2.set (h.z+1) (.box (au c))) o2 (by rw[co];exact Fv _) (fun a q _=>an (by omega)));unfold au at e3;refine⟨rfl,rfl,.inr rfl,[.agg [_,_,_,_,_],V],by simp only[go_sem,simprocAttr,aeA,t2];rfl,_,_,bG (ae (iG (ir (eC _) (eL _)) _) (ae e3 (aB _))),?_,?_,?_⟩
  ·rw[sp];simp
  ·rw[n3,co];omega
  ·intro k hk;rw[k3 k (by omega),an (by omega),k2 k (by omega)];exact J.kw.kw k hk
 unfold Ud;simp only[go_sem,simprocAttr,t1,g1];by_cases hk:c.kind=4
 ·simp only[go_sem,simprocAttr,hk,t1,g1];by_cases hl2:c.K.length=2
  ·obtain⟨k,i,nm,ls,ks⟩:=c;simp only[T.K,T.kind]at hl2 hk;subst hk
   match ks,hl2 with
   |[f,a],_=>
    have hsc:size (.mk 4 i nm ls [f,a])=1+(size f+(size a+0)):=by simp only[size,aW]
    have ha:∀h,cz (.ls ([f,a].map enc)) h 5 (wt 0)=.val (.vptr (enc f)) h:=fun h=>aN (ks:=[f,a]) (m:=0) aZ rfl .i64 h
    have hb:∀h,cz (.ls ([f,a].map enc)) h 5 (wt 1)=.val (.vptr (enc a)) h:=fun h=>aN (ks:=[f,a]) (m:=1) aZ rfl .i64 h
    simp only[T.kind,T.i,T.name,T.L,T.K,List.map_cons,List.map_nil]at ha hb g1;have h22:decide (((2:Nat):Int)=2)=true:=rfl;obtain⟨V',H4,e4,o4,n4,k4,_⟩:=cV (bytes:=80) (x:=enc a) (z:=[wt 0,wt 0,.str (bs []),.nl,.nl]) o (by omega) rfl (aZ a) (fu a) (gh a) (by rw[waa];omega) (by decide);have g1':=(k4 h.z (by omega)).trans g1;have hst:=aQ g1' f;simp only[go_sem,simprocAttr,T.K,t1,t4,g1,hb,rO,e4,g1',ha,hst];have sp:=J.sp;rw[ko]at sp;refine⟨_,by omega,_,f,V',out++[a],rfl,rfl,by simp only[go_sem,simprocAttr,t1],by simp only[go_sem,simprocAttr,t2],by simp only[go_sem,simprocAttr],⟨aC _ _ _,?_,?_,?_,?_,?_,?_⟩⟩
    ·rw[an (by omega),k4 _ (by omega)];exact g2
    ·rw[List.map_append];exact bp o4 (by rw[co];exact Fv _) (fun a q _=>an (by omega))
    ·exact HK.set ⟨by omega,fun k hk=>(k4 k (by omega)).trans (J.kw.kw k hk)⟩ _ (by omega)
    ·rw[co];omega
    ·rw[sp];simp
    ·simp only[List.length_append,List.length_cons,List.length_nil];omega
  ·have:decide ((c.K.length:Int)=2)=false:=by simp;omega
   have hs:aD c=(c,[]):=by cases c;exact jo hl2 _ _ _ _
   simp only[go_sem,simprocAttr,this];exact hend _ (by simp only[go_sem,simprocAttr,t1]) (by simp only[go_sem,simprocAttr,t2]) (by simp only[go_sem,simprocAttr,t4]) hs
 ·have hk':decide (c.kind=4)=false:=by simpa using hk
  have hs:aD c=(c,[]):=by cases c;exact jn hk _ _ _ _
  simp only[go_sem,simprocAttr,hk'];exact hend _ (by simp only[go_sem,simprocAttr,t1]) (by simp only[go_sem,simprocAttr,t2]) (by simp only[go_sem,simprocAttr,t4]) hs
mutual
def io:T->Nat
 |.mk _ _ _ _ ks=>depths ks+1
def depths:List T->Nat
 |[]=>0
 |t::l=>max (io t) (depths l)
end
theorem tj (ks:List T)(i:Nat)(t:T)(h:ks[i]?=some t):depths (ks.take (i+1))=max (depths (ks.take i)) (io t):=by
 induction ks generalizing i with
 |nil=>simp at h
 |cons a l ih=>
  cases i with
  |zero=>simp at h;subst h;simp[depths]
  |succ i=>simp at h;simp only[List.take_succ_cons,depths,ih i h];omega
mutual
theorem uE:∀t,io t<=size t
 |.mk _ _ _ _ ks=>by have:=qu ks;simp only[io,size];omega
theorem qu:∀l,depths l<=aW l
 |[]=>by simp[depths]
 |t::l=>by have:=uE t;have:=qu l;simp only[depths,aW];omega
end
def I29x (t:List AV)(ks:List T)(j:Nat)(fr:AF)(h:AH):Prop:=∃tm m,m+j=ks.length/\fr=⟨tm,⟨[],.no,none,29⟩⟩/\h.get 0=some (.box t)/\nth tm 1=.ptr 0 0 0/\nth tm 3=wt ((depths (ks.take m):Nat):Int)/\nth tm 4=wt (m:Int)
theorem ada (call:aG)(n:Nat)(k i:Int)(nm:ByteArray)(ls:List LL)(ks:List T)(hn:ks.length<n)(hl:ks.length<9223372036854775807)(hs:depths ks<9223372036854775806)
  (hc:∀t∈ks,∀h,call (.fn 29 [] []) [enc t] .no h=some (.ret (wt (io t)),.no,h)) :
  R call n [.code b29] (FQ r29 (.ret (wt (io (.mk k i nm ls ks))))) .normal ⟨bn [enc (.mk k i nm ls ks)],⟨[],.no,none,29⟩⟩ bg:=by
 rw[ei];unfold b29 r29 bg;simp only[go_sem,simprocAttr,Vh,Vi];refine bD (I29x [wt k,wt i,.str nm,.ls (ls.map aK),.ls (ks.map enc)] ks) ks.length hn ⟨_,0,wac _,rfl,by simp only[go_sem,simprocAttr],by simp only[go_sem,simprocAttr],by simp only[go_sem,simprocAttr];simp[depths],by simp only[go_sem,simprocAttr]⟩ ?_;rintro j fr h ⟨tm,m,hm,rfl,hg,h1,h3,h4⟩;unfold VV;simp only[go_sem,simprocAttr,hg,h1,h4];refine bj (fun hlt=>?_) (fun hge=>?_)
 ·have hlt:m<ks.length:=by omega
  have hget:ks[m]?=some ks[m]:=wO hlt;have ha:=fun h=>aN aZ hget .i64 h
  have hcall:=hc ks[m] (List.getElem_mem hlt);have hw2:=aM m (by omega);have hd:=tj ks m _ hget;simp only[go_sem,simprocAttr,Vk,hg,h1,h3,h4,ha,hcall,hw2];refine⟨j-1,by omega,_,m+1,by omega,rfl,hg,by simp only[go_sem,simprocAttr, *],?_,by simp only[go_sem,simprocAttr, *]⟩;simp only[go_sem,simprocAttr];omega
 ·have:m=ks.length:=by omega
  subst this;rw[List.take_length]at h3;have hw:IntKind.wrap .i64 (((depths ks:Nat):Int)+1)=((depths ks+1:Nat):Int):=aM _ (by omega);simp only[go_sem,simprocAttr,Vj,h3,hw];simp[io]
def I246 (t:List AV)(ks:List T)(j:Nat)(fr:AF)(h:AH):Prop:=∃tm m,m+j=ks.length/\fr=⟨tm,⟨[],.no,none,246⟩⟩/\0<h.z/\h.get 0=some (.box t)/\nth tm 1=.ptr 0 0 0/\nth tm 3=wt ((depths (ks.take m):Nat):Int)/\nth tm 7=.ls (ks.map enc)/\nth tm 8=wt (ks.length:Int)/\nth tm 9=wt (m:Int)
theorem ade (call:aG)(n:Nat)(k i:Int)(nm:ByteArray)(ls:List LL)(ks:List T)(hn:ks.length<n)(hl:ks.length<9223372036854775807)(hs:depths ks<9223372036854775806)
  (hc:∀t∈ks,∀h,call (.fn 246 [] []) [enc t] .no h=some (.ret (wt (io t)),.no,h)) :
  R call n [.code aeX] (FQ r246 (.ret (wt (io (.mk k i nm ls ks))))) .normal ⟨bn [enc (.mk k i nm ls ks)],⟨[],.no,none,246⟩⟩ bg:=by
 rw[ei];unfold aeX r246 bg;simp only[go_sem,simprocAttr,PX,PY];refine bD (I246 [wt k,wt i,.str nm,.ls (ls.map aK),.ls (ks.map enc)] ks) ks.length hn ⟨_,0,wac _,rfl,by simp only[go_sem,simprocAttr],by simp only[go_sem,simprocAttr],by simp only[go_sem,simprocAttr],by simp only[go_sem,simprocAttr];simp[depths],by and_intros<;>simp only[go_sem,simprocAttr]⟩ ?_;rintro j fr h ⟨tm,m,hm,rfl,h0,hg,h1,h3,h7,h8,h9⟩;unfold TR;simp only[go_sem,simprocAttr,Qa,h8,h9];refine bj (fun hlt=>?_) (fun hge=>?_)
 ·have hlt:m<ks.length:=by omega
  have hget:ks[m]?=some ks[m]:=wO hlt;have ha:=fun h=>aN aZ hget .i64 h
  have hcall:=hc ks[m] (List.getElem_mem hlt);have hw2:=aM m (by omega);have hd:=tj ks m _ hget;have hep:=aA ks[m];have n1:¬ 0=h.z:=by omega
  rw[hep]at hcall;simp only[go_sem,simprocAttr,Qb,h3,h7,h9,ha,hep,hcall,hw2];refine⟨j-1,by omega,_,m+1,by omega,rfl,by rw[co,ci];omega,by rw[an (by omega),aJ (by omega)];exact hg,by simp only[go_sem,simprocAttr, *],?_,by and_intros<;>simp only[go_sem,simprocAttr, *]⟩;simp only[go_sem,simprocAttr];omega
 ·have:m=ks.length:=by omega
  subst this;rw[List.take_length]at h3;have hw:IntKind.wrap .i64 (((depths ks:Nat):Int)+1)=((depths ks+1:Nat):Int):=aM _ (by omega);simp only[go_sem,simprocAttr,PZ,h3,hw];simp[io]
