/- Lemmas for MachineOrders (no condition). -/
import Derived.Test.YtocdlbblemjabaaGreatDoorDa
import Derived.Test.YtocdlbblemjabaaGreatDoorBx
set_option linter.defProp false
namespace Go.Proofs.YtocdlbblemjabaaGreatDoor
open Go.AG Go.AG.MK
attribute [go_sem] QM r16 Wz Wy abo abn JJ abl JI Wu abk abg Wr abf aaa r203 r74 aa3 vY r149 Fo Wo aa1 r244 agJ QF aaR aaQ QE AN aaP QD JH JG aaO r279 r104 aaI Qw Qv Qu Fh aaH aaG r73 VZ r118 agI r151 r130 VT r45 r200 r201 JD r91 r242 ZY ZZ acH r204
section
variable {K:aN}{h:AH}
def c157 [a:RunsM K]:Ret K (157) [] h λv _=>v=enc (.mk 1 0 (bs []) [] []):=by
 refine aV aey ?_;simp only[go_sem];exact cG g_ y_ (jc (iV (ls:=[]) (ks:=[]) rfl rfl) _) ⟨rfl,(HK.new _ _).set _ o_⟩
end
theorem fL (t:T):T.mk t.D t.X t.N t.L t.K=t:=by cases t;rfl
theorem jt {t:T}{b a:AV}(d:b.norm=.eL t.L)(c:a.norm=.eT t.K):(AV.agg [.I t.D,.I t.X,.str t.N,b,a]).norm=enc t:=by
 grind [iV,fL]
def Ro (h:AH)(k:Nat)(t:T):Prop:=∃b a,h.get k=some (.box [.I t.D,.I t.X,.str t.N,b,a])/\b.norm=.eL t.L/\a.norm=.eT t.K
def Ro.kw {h a:AH}{k:Nat}{t:T}(b:Ro h k t)(e:a.get k=h.get k):Ro a k t:=by
 have⟨g,c,_,f,d⟩:=b;exact⟨g,c,g_,f,d⟩
def SM {f a:T}{b c:AV}(d:b.norm=.eL f.L)(e:c.norm=.eT f.K):
  (AV.clip [.agg [.I f.D,.I f.X,.str f.N,b,c],.agg (h_ a)]).norm=.eT ([f,a]:List T):=by
 show(AV.ls (AV.norms _))=_;grind [mF,oW,jt,dH,ei]
theorem Ro.app {h:AH}{k:Nat}{f a:T}{e d:AV}(b:e.norm=.eL f.L)(c:d.norm=.eT f.K):
  Ro (h.set k (.box [.I 4,.I 0,.str (bs []),.nl,.clip [.agg [.I f.D,.I f.X,.str f.N,e,d],.agg (h_ a)]])) k (app f a):=
 ⟨_,_,aF _ _ _,rfl,SM b c⟩
abbrev zB:dF:=.box [.I 0,.I 0,.str (bs []),.nl,.nl]
section
variable {K:aN}{h:AH}
def c74 [RunsM K](f:T)(a:List T)(h:AH)(z:a.length<=1000000000):Ret K (70) [enc f,.eT a] h λv _=>v=enc (bA f a):=by
 refine aV cf74 ?_;rw[aJ f];simp only[go_sem];refine bo (λj k H=>∃tm p,p+j=a.length/\k=F_ 70 tm/\nth tm 1=.eT a/\nth tm 2=.P h.z/\nth tm 4=.P (h.z+1)/\nth tm 5=.I (p:Int)/\
  Ro H h.z (bA f (a.take p))/\H.get (h.z+1)=some zB/\HK h H/\h.z+2<=H.z) a.length o_
  ⟨_,0,o_,rfl,k_,k_,q_ aB,y_,⟨_,_,by rw[aM (by rw[aB];omega),aD];rfl,dH _,ei _⟩,by grind [aB,cB,enc,aD],(HK.new _ _).add _,by simp only[aB];omega⟩ ?_
 rintro j k H ⟨tm,p,w,rfl,l,q,e,i,⟨x,y,g,o,n⟩,t,hk,nx⟩;simp only[go_sem,l,i];refine aU (λd=>?_) (λs=>?_)
 ·have d:p<a.length:=o_;have m:a[p]?=some a[p]:=g_;have r:=aR bH o_ .i64;have b:=aJ a[p];have u:=aP p o_;simp only[go_sem,l,q,i,g,r,b,u];exact⟨j-1,o_,_,p+1,o_,rfl,by simp only[go_sem, *],by simp only[go_sem, *],by simp only[go_sem, *],by simp only[go_sem, *],by grind [Z_,lL,Ro.app],by grind [aA],hk.set _ o_,by grind [aE]⟩
 obtain rfl:p=a.length:=o_;rw[K_]at g o n;have c:¬h.z=h.z+1:=o_;simp only[go_sem,q,e,g,t];exact cG g_ (q_ e) (jc (jt o n) _) ⟨rfl,hk.set _ o_⟩
end
def sg {k:Int}{a:List T}(hk:¬(k=4/\a.length=2))(i:Int)(nm:ByteArray)(ls:List LL):aT (.mk k i nm ls a)=(.mk k i nm ls a,[]):=mw λb c=>hk ⟨b,c⟩
def kY:∀(n:Nat) (t:T),aO t<=n->aO (aT t).1+ba (aT t).2+(aT t).2.length=aO t:=by
 intro n;induction n with
 |zero=>intro t h;have:=bI t;omega
 |succ n c=>
  intro t h;have⟨k,_,_,_,b⟩:=t;by_cases hk:k=4/\b.length=2
  ·obtain⟨rfl,d⟩:=hk
   match b,d with
   |[f,a],_=>
    rw[iE];simp only[aO,ba]at h ⊢;have e:=c f o_;simp only[dR,ba,H_,M_,List.length_nil];omega
  rw[sg hk];simp[ba]
def NX (t:T):(aT t).2.length<=aO t:=by have:=kY _ t (e_ _);omega
def oN (h:AH)(t:T):∃H,H=(h.new zB).set h.z (.box (aG t))/\cY (.P h.z) (h.new zB) 5 (enc t)=some H/\HK h H/\H.z=h.z+1/\H.get h.z=some (.box (aG t)):=
 ⟨_,rfl,bz (aD _ _) t,(HK.new _ _).set _ (e_ _),by rw[aE,aB],aF _ _ _⟩
section
variable {K:aN}
def acU [RunsM K]:∀(n:Nat) (t:T) (h:AH),aO t<=n->aO t<=500000000000->Ret K (68) [enc t] h λv O=>∃V,v=.tup [enc (aT t).1,V]/\Own h.z 5 true O V ((aT t).2.map enc):=by
 intro n;induction n with
 |zero=>intro t h N;have:=bI t;omega
 |succ n M=>
  intro t h N r;have⟨k,i,nm,ls,b⟩:=t;refine Ey cf148 ?_;rw[pQ];simp only[go_sem];have⟨H,j⟩:∃H:AH,H=((h.new (.box [i_ k,i_ i,.str nm,.ls (ls.map cB),.ls (b.map enc)])).new zB):=⟨_,rfl⟩;have u:HK h H:=by subst j;exact(HK.new _ _).add _
  have n0:H.z=h.z+2:=by subst j;simp only[aB]
  have l:H.get h.z=some (.box [i_ k,i_ i,.str nm,.ls (ls.map cB),.ls (b.map enc)]):=by subst j;rw[aM (by rw[aB];omega),aD]
  have x:H.get (h.z+1)=some zB:=by
   subst j;rw[<-aB h (.box [i_ k,i_ i,.str nm,.ls (ls.map cB),.ls (b.map enc)]),aD]
  rw[<-j];clear j;have fin:∀tm (H:AH),aT (.mk k i nm ls b)=(.mk k i nm ls b,[])->nth tm 2=.ptr (h.z+1) 0 0->nth tm 3=.nl->H.get (h.z+1)=some (.box [i_ k,i_ i,.str nm,.ls (ls.map cB),.ls (b.map enc)])->HK h H->
    IQ aaa (λv d=>(∃V,v=.tup [enc (aT (.mk k i nm ls b)).1,V]/\Own h.z 5 true d V ((aT (.mk k i nm ls b)).2.map enc))/\HK h d) .ret (F_ 68 tm) H:=λtm H e t2 I g hk=>
   ⟨rfl,rfl,.inr rfl,[.agg [_,_,_,_,_],.nl],by simp only[go_sem,aaa,t2,I,g];rfl,⟨.nl,by rw[e,pQ];rfl,by rw[e];exact cV _ _ _ _⟩,hk⟩
  simp only[go_sem,aB,l];by_cases hk:k=4
  ·subst hk;by_cases D:b.length=2
   ·match b,D with
    |[f,a],_=>
     have J:aO (.mk 4 i nm ls [f,a])=1+(aO f+(aO a+0)):=by simp only[aO,ba]
     have y:bW (.ls ([f,a].map enc)) 5 (i_ 0)=some (.vp (enc f)):=aR (ks:=[f,a]) (m:=0) bH rfl .i64;have r:bW (.ls ([f,a].map enc)) 5 (i_ 1)=some (.vp (enc a)):=aR (ks:=[f,a]) (m:=1) bH rfl .i64;simp only[List.map_cons,List.map_nil]at y r l;obtain⟨_,d,e2,⟨V,rfl,ho⟩,c⟩:=M f H o_ o_;have n2:=c.z;have⟨G,C,o,m,_,s⟩:=oN d (aT f).1;have p:decide (((2:Nat):Int)=2)=true:=rfl;simp only[go_sem,l,y,e2,p,o];have S:=m.up (c.up l);have Q:=m.up (c.up x);have W:Own H.z 5 true G V ((aT f).2.map enc):=bP ho m.z (λa _ q=>m.kw a q);have X:=NX f;have⟨z,U,Y,L,_,E,w,_⟩:=eY (enc a) W;have Z:=(E (h.z+1) o_).trans Q;have B:U.get d.z=some (.box (aG (aT f).1)):=by
      rw[w d.z o_ (λg n e=>?_)]
      ·exact s
      obtain⟨_,⟨q,_⟩|⟨_,_,q,_,A,_⟩⟩:=ho
      ·rw[q]at e;cases e
      rw[q]at e;injection e with e;omega
     unfold aG at s B;simp only[go_sem,S,r,s,Y,B,Z];refine⟨rfl,rfl,.inr rfl,[.agg [_,_,_,_,_],z],by simp only[go_sem];rfl,⟨z,?_,?_⟩,?_⟩
     ·rw[iE,aJ (aT f).1];rfl
     ·rw[iE,List.map_append];have⟨R,P⟩:=L;refine⟨R,?_⟩;rcases P with q|⟨k,g,F,A,C,q4⟩
      ·exact .inl q
      exact .inr ⟨k,g,F,by rw[aA o_];exact A,by rw[aE];exact C,o_⟩
     exact HK.set ⟨o_,λk hk=>(E k o_).trans ((((u.trans c).trans m)).kw k hk)⟩ _ o_
   have:decide ((b.length:Int)=2)=false:=by simp;omega
   simp only[go_sem,this,l,x];exact fin _ _ (sg (λq=>D q.2) _ _ _) k_ k_ (aF _ _ _) (u.set _ o_)
  have:decide (k=4)=false:=by simpa using hk
  simp only[go_sem,this,l,x];exact fin _ _ (sg (λq=>hk q.1) _ _ _) k_ k_ (aF _ _ _) (u.set _ o_)
end
def nO {c:List bG}{P:AV->AH->Prop}{tm:Tm}{a:AC}{b:AH}{e:AEx}(x:T)(h:fH c tm b=some [.agg (aG x)])(d:P (enc x) b)(f:e=.normal\/e=.ret:=by exact .inr rfl)
  (i:a.dfs=[]:=by rfl) (g:a.rc=.no:=by rfl):Fin c P e ⟨tm,a⟩ b:=
 cG f h (jc (jt (dH _) (ei _)) _) d (by intro l e;cases e) i g
structure HKp (X:Nat->Prop)(h h':AH):Prop where
 z:h.z<=h'.z
 kw:∀k,k<h.z->¬X k->h'.get k=h.get k
theorem HK.p {h a:AH}(x:HK h a)(X:Nat->Prop):HKp X h a:=⟨x.z,λk hk _=>x.kw k hk⟩
theorem HKx.p {w:Nat}{h a:AH}(x:HKx w h a):HKp (·=w) h a:=⟨x.z,λk hk q=>x.kw k hk q⟩
theorem HKp.x {w:Nat}{h a:AH}(x:HKp (·=w) h a):HKx w h a:=⟨x.z,λk hk q=>x.kw k hk q⟩
theorem HKp.k {h a:AH}(x:HKp (λ_=>False) h a):HK h a:=⟨x.z,λk hk=>x.kw k hk id⟩
theorem HKp.trans {X:Nat->Prop}{a b c:AH}(x:HKp X a b)(y:HKp X b c):HKp X a c:=⟨C_ x.z y.z,λk hk q=>(y.kw k (B_ hk x.z) q).trans (x.kw k hk q)⟩
def HKp.set {X:Nat->Prop}{h a:AH}(x:HKp X h a){j:Nat}(o:dF)(b:h.z<=j):HKp X h (a.set j o):=⟨by rw[aE];exact x.z,λk hk q=>by rw[aA o_];exact x.kw k hk q⟩
theorem HKp.gu {X:Nat->Prop}{h a:AH}(x:HKp X h a){k:Nat}{o:dF}(g:h.get k=some o)(hk:k<h.z)(b:¬X k):a.get k=some o:=(x.kw k hk b).trans g
theorem HKp.tk {X:Nat->Prop}{a b c:AH}(x:HKp X a b)(y:HK b c):HKp X a c:=x.trans (y.p X)
theorem HK.tp {X:Nat->Prop}{a b c:AH}(x:HK a b)(y:HKp X b c):HKp X a c:=(x.p X).trans y
attribute [grind ->] HKp.z HKp.trans HKp.tk HK.tp
attribute [grind =>] HKp.gu
def HKp.up {X:Nat->Prop}{h a:AH}(x:HKp X h a){k:Nat}{o:Option dF}(g:h.get k=o)(hk:k<h.z:=by first|omega|grind)(b:¬X k:=by first|omega|grind):a.get k=o:=(x.kw k hk b).trans g
structure Jb (X:Nat->Prop)(L:List (Nat×dF))(B:Nat)(h0 h:AH)(V:AV)(out:List T):Prop where
 hX:∀k,X k->k<h0.z
 hL:∀p∈L,h0.z<=p.1/\p.1<B
 cells:∀p∈L,h.get p.1=some p.2
 own:Own B 5 true h V (out.map enc)
 kw:HKp X h0 h
 nx:h0.z<=B/\B<=h.z
section
variable {X:Nat->Prop}{L:List (Nat×dF)}{B:Nat}{h0 h:AH}{V:AV}{out:List T}
def Jb.up (J:Jb X L B h0 h V out){c:AH}(k:HKp X h c):Jb X L B h0 c V out:=by
 have nx:=J.nx;have hx:∀a,h0.z<=a->¬X a:=λa d q=>by have:=J.hX a q;omega
 exact⟨J.hX,J.hL,λp b=>(k.kw _ (by have:=J.hL p b;omega) (hx _ (J.hL p b).1)).trans (J.cells p b),bP J.own k.z (λa d q=>k.kw a q (hx a o_)),J.kw.trans k,⟨nx.1,C_ nx.2 k.z⟩⟩
theorem Jb.add (J:Jb X L B h0 h V out)(x:T)(m:out.length<500000000000):
  ∃b c,cI h 5 true zT 80 V (.clip [enc x])=some (b,c)/\Jb X L B h0 c b (out++[x])/\AV.beq b b=true/\∀a,a<B->c.get a=h.get a:=by
 have nx:=J.nx;have⟨b,c,i,g,j,d,_,_,_,f,_⟩:=eY (enc x) J.own;exact⟨b,c,i _ _ rfl (by decide),⟨J.hX,J.hL,λp e=>(d _ (J.hL p e).2).trans (J.cells p e),by rw[List.map_append];exact g,⟨C_ J.kw.z j,λk hk q=>(d k o_).trans (J.kw.kw k hk q)⟩,⟨nx.1,o_⟩⟩,by rw[f];exact gQ _,d⟩
theorem Jb.beq (J:Jb X L B h0 h V out):AV.beq V V=true:=by
 obtain⟨_,⟨rfl,_⟩|⟨_,_,rfl,_⟩⟩:=J.own
 ·rfl
 exact gQ _
def Jb.vc (J:Jb X L B h0 h V out):V.cells=[V]/\V.lies=true:=by
 obtain⟨_,⟨rfl,_⟩|⟨_,_,rfl,_⟩⟩:=J.own<;>exact⟨rfl,rfl⟩
def Jb.two (h:AH)(a b:dF)(c:∀k,X k->k<h.z):Jb X [(h.z,a),(h.z+1,b)] (h.z+2) h ((h.new a).new b) .nl []:=
 ⟨c,by simp,by
  simp only[X_,List.not_mem_nil,or_false,forall_eq_or_imp,forall_eq];exact⟨by rw[aM (by rw[aB];omega),aD],by rw[<-aB h a,aD]⟩,cV _ _ _ _,((HK.new _ _).add _).p _,by simp only[aB];omega⟩
def Jb.c0 {a b:Nat}{c d:dF}(J:Jb X [(a,c),(b,d)] B h0 h V out):h.get a=some c/\h.get b=some d:=⟨J.cells (a,c) (by simp),J.cells (b,d) (by simp)⟩
def Jb.put (J:Jb X L B h0 h V out){j:Nat}(o:dF)(d:h0.z<=j/\j<B)(c:∀p∈L,p.1≠j):Jb X L B h0 (h.set j o) V out:=
 ⟨J.hX,J.hL,λp b=>(aA (c p b)).trans (J.cells p b),bP J.own (by rw[aE];exact e_ _) λa e _=>aA o_,J.kw.set o d.1,⟨J.nx.1,by rw[aE];exact J.nx.2⟩⟩
theorem Jb.fin (J:Jb X L B h0 h V out)(k i:Int)(nm:ByteArray)(ls:List LL){j:AH}(hs:∃l:List (Nat×dF),(∀p∈l,h0.z<=p.1/\p.1<B)/\j=l.foldl (λh p=>h.set p.1 p.2) h):
  ∃e,cw (.agg [.I k,.I i,.str nm,.eL ls,V]) j=(enc (.mk k i nm ls out),e)/\HKp X h0 e/\∀a,a<h0.z->e.get a=h.get a:=by
 obtain⟨l,r,rfl⟩:=hs;have f:∀(l:List (Nat×dF)) (h:AH),(∀p∈l,h0.z<=p.1/\p.1<B)->Own B 5 true h V (out.map enc)->HKp X h0 h->Own B 5 true (l.foldl (λh p=>h.set p.1 p.2) h) V (out.map enc)/\HKp X h0 (l.foldl (λh p=>h.set p.1 p.2) h)/\∀a,a<h0.z->(l.foldl (λh p=>h.set p.1 p.2) h).get a=h.get a:=by
  intro l;induction l with
  |nil=>intro h _ o k;exact⟨o,k,λ_ _=>rfl⟩
  |cons p l u=>
   intro h g o k;have q:=g p (by simp);have⟨a,b,c⟩:=u (h.set p.1 p.2) (λx hx=>g x (by simp[hx])) (bP o (by rw[aE];exact e_ _) λa d _=>by rw[aA o_]) (k.set _ q.1);exact⟨a,b,λx hx=>(c x hx).trans (aA o_)⟩
 have⟨o,n,w⟩:=f l h r J.own J.kw;have⟨s,t,v,m⟩:=Vf k i nm ls o;have nx:=J.nx;exact⟨s,t,⟨by rw[v];exact n.z,λa d q=>(m a o_).trans (n.kw a d q)⟩,λa d=>(m a o_).trans (w a d)⟩
end
def Wlk (h:AH)(w:Nat)(e n:Int):Prop:=h.get w=some (.box [.I e,.I n])
def fl (e:Int):Int:=if e=0 then 24 else e
section
variable {K:aN}{h:AH}{w:Nat}{e n:Int}
def agS [RunsM K](x:Int)(g:Wlk h w e n):Rt K (188) [.P w,.I x] h λv a=>v=.tup []/\HKx w h a/\Wlk a w (if e=0 then x else e) n:=by
 refine aV cf130 ?_;unfold Wlk at g;by_cases q:e=0
 ·subst q;simp only[go_sem,g];exact⟨rfl,rfl,.inl rfl,[],k_,_,_,rfl,rfl,(HKx.refl w h).set _ (.inr rfl),aF _ _ _⟩
 have b:decide (e=0)=false:=by simpa using q
 simp only[go_sem,g,b];exact⟨rfl,rfl,.inl rfl,[],k_,_,_,rfl,rfl,HKx.refl w h,by rw[N_ q];exact g⟩
def c131 [RunsM K](i:Int)(g:Wlk h w e n)(t:w<h.z):Rt K (184) [.P w,.I i] h λv a=>v=enc (.mk 0 i (bs []) [] [])/\HKx w h a/\Wlk a w (if i<=65535 then e else fl e) n:=by
 refine aV cf131 ?_;have fin:∀tm (H:AH) (b:Int),nth tm 1=.I i->nth tm 4=.P h.z->HKx w h H->H.get h.z=some zB->Wlk H w b n->(if i<=65535 then e else fl e)=b->
   R_ K [.code Kp] (Fin agI λv a=>v=enc (.mk 0 i (bs []) [] [])/\HKx w h a/\Wlk a w (if i<=65535 then e else fl e) n) .normal (F_ 184 tm) H:=by
  intro tm H b o f k r p q;simp only[go_sem,Kp,o,f,r];exact cG (.inr rfl) (by simp only[go_sem,f];rfl) (jc (iV (ls:=[]) (ks:=[]) rfl rfl) _) ⟨rfl,k.set _ (.inl (e_ _)),by rw[q];exact(aA o_).trans p⟩
 have d:=(HK.new h zB).x w;have l:Wlk (h.new zB) w e n:=(aM o_).trans g;by_cases q:65535<i
 ·have c:decide (65535<i)=true:=by simpa using q
  obtain⟨_,_,m,rfl,j,s⟩:=agS 24 l;simp only[go_sem,c,m];exact fin _ _ _ k_ k_ (d.trans j) ((j.kw _ (by rw[aB];omega) o_).trans (aD _ _)) s (by rw[N_ o_];rfl)
 have c:decide (65535<i)=false:=by simpa using q
 simp only[go_sem,c];exact fin _ _ _ k_ k_ d (aD _ _) l (P_ o_)
end
theorem wR (b k:Int):∀(c:List T) (j:Nat) (d:Int) (a:Nat),(fB b k j c d)[a]?=(c[a]?).map λt=>cZ b t (d+bK k ((j+a:Nat):Int))
 |[],_,_,_=>by simp[fB]
 |t::l,j,d,0=>by simp[fB]
 |t::l,j,d,a+1=>by
  have e:=wR b k l (j+1) d a;simp only[fB,List.getElem?_cons_succ,e];rw[show j+1+a=j+(a+1) by omega]
theorem qY (a k:Int):∀(b:List T) (j:Nat) (d:Int),(fB a k j b d).length=b.length
 |[],_,_=>rfl
 |t::l,j,d=>by simp[fB,qY a k l (j+1) d]
def iN {a:Type}{l:List a}{p:Nat}{x:a}(h:l[p]?=some x):l.take (p+1)=l.take p++[x]:=by rw[Z_,h];rfl
mutual
def okS (a:Int):T->Int->Prop
 |.mk k i _ _ b,d=>if k=0 then i<d\/d<=i+a/\i+a<=65535 else Qi a k 0 b d
def Qi (a k:Int):Nat->List T->Int->Prop
 |_,[],_=>True
 |j,t::l,d=>okS a t (d+bK k j)/\Qi a k (j+1) l d
end
theorem Al (b k:Int):∀(c:List T) (j:Nat) (d:Int),Qi b k j c d<->∀(a:Nat) (t:T),c[a]?=some t->okS b t (d+bK k ((j+a:Nat):Int))
 |[],_,_=>by simp[Qi]
 |t::l,j,d=>by
  rw[Qi,Al b k l (j+1) d];constructor
  ·rintro⟨f,e⟩ a x hx;cases a with
   |zero=>cases hx;exact f
   |succ a=>have:=e a x (by simpa using hx);rwa[show j+1+a=j+(a+1) by omega]at this
  intro h;exact⟨h 0 t rfl,λa x hx=>by have:=h (a+1) x (by simpa using hx);rwa[show j+(a+1)=j+1+a by omega]at this⟩
mutual
def IB:T->Prop
 |.mk k i _ _ a=>(k=0->0<=i/\i<=65535/\a=[])/\IBs a
def IBs:List T->Prop
 |[]=>True
 |t::l=>IB t/\IBs l
end
def zQ:∀{b:List T} {t:T},IBs b->t∈b->IB t
 |a::l,t,h,hm=>by
  rcases X_.1 hm with rfl|hm
  ·exact h.1
  exact zQ h.2 hm
def fl_fl (e:Int):fl (fl e)=fl e:=by unfold fl;split<;>simp_all
def mI (k j:Int):0<=bK k j/\bK k j<=1:=by unfold bK;split<;>omega
section
variable {K:aN}{w:Nat}{nn:Int}
def agO [RunsM K](k j:Int)(h:AH):cS K (.fn 128 [] []) [.I k,.I j] .no h=some (.ret (.I (bK k j)),.no,h):=(c72 k j)
def c118 [RunsM K](b:Int)(ai : -1000000<=b)(ah:b<=1000000):∀(n:Nat) (t:T) (d e:Int) (h:AH),aO t<=n->aO t<=20000000000->IB t->0<=d->d+aO t<=20000000000->Wlk h w e nn->w<h.z->
  Rt K (183) [.P w,enc t,.I b,.I 0,.I d] h λv h'=>∃t',v=enc t'/\HKx w h h'/\((okS b t d/\t'=cZ b t d/\Wlk h' w e nn)\/(¬okS b t d/\Wlk h' w (fl e) nn)):=by
 intro n;induction n with
 |zero=>intro t d e h hm;have:=bI t;omega
 |succ n ih=>
  intro t d e h hm W hv ak S hw wl;have⟨k,i,nm,ls,c⟩:=t;refine aV cf118 ?_;rw[pQ];simp only[go_sem];have D:=Jb.two (X:=(·=w)) h (.box [.I k,.I i,.str nm,.eL ls,.eT c]) zB (λk hk=>by omega);have z:Wlk ((h.new (.box [.I k,.I i,.str nm,.eL ls,.eT c])).new zB) w e nn:=(((HK.new _ _).add _).kw w wl).trans hw;revert D z;generalize ((h.new (.box [.I k,.I i,.str nm,.eL ls,.eT c])).new zB)=H;intro D z;have⟨b6,g⟩:=D.c0;have nx:=D.nx;have n1:¬h.z=h.z+1:=o_;have n2:¬h.z+1=h.z:=o_;have O:=D.kw.x;have ab:aO (.mk k i nm ls c)=1+ba c:=by simp only[aO]
  have ag:=bO c;rw[ab]at hm S W;have⟨R,X⟩:=hv;simp only[go_sem,aB,b6];by_cases hk:k=0
  ·subst hk;have⟨_,_,_⟩:=R rfl;have I:IntKind.wrap .i64 (0+d)=d:=by rw[Int.zero_add];exact aW _ o_ o_
   have s:=aW (i+b) o_ o_;simp only[go_sem,b6,I];refine aU (λo=>?_) (λQ=>?_)
   ·simp only[go_sem,b6,g];exact cG (.inr rfl) y_ (jc (iV (dH ls) (ei c)) _) ⟨_,rfl,O.set _ (.inl o_),.inl ⟨by rw[okS,P_ rfl];exact .inl o,by rw[cZ,P_ rfl,P_ o],(aA o_).trans z⟩⟩
   simp only[go_sem,b6,I,s];refine aU (λad=>?_) (λaf=>?_)
   ·obtain⟨_,H2,L,rfl,y,u⟩:=agS 24 z;have q6:=y.up b6;have A:=y.up g;simp only[go_sem,L,q6,A];exact cG (.inr rfl) y_ (jc (iV (dH ls) (ei c)) _) ⟨_,rfl,(O.trans y).set _ (.inl o_),.inr ⟨by rw[okS,P_ rfl];omega,(aA o_).trans u⟩⟩
   obtain⟨_,_,L,rfl,y,u⟩:=c131 (i+b) z o_;have A:=y.up g;have r:=bz A (.mk 0 (i+b) (bs []) [] []);simp only[go_sem,b6,s,L,r];refine cG (.inr rfl) (v:=enc (.mk 0 (i+b) (bs []) [] [])) (by simp only[go_sem,aG];rfl) (cJ _ _) ⟨_,rfl,(O.trans y).set _ (.inl o_),?_⟩ (by rw[aJ];intro l e;cases e);by_cases hq:i+b<=65535
   ·rw[P_ hq]at u;exact .inl ⟨by rw[okS,P_ rfl];omega,by rw[cZ,P_ rfl,N_ o_],(aA o_).trans u⟩
   rw[N_ hq]at u;exact .inr ⟨by rw[okS,P_ rfl];omega,(aA o_).trans u⟩
  have Y:decide (k=0)=false:=by simpa using hk
  simp only[go_sem,Y];refine bo (λj fr H=>∃tm p V out B,p+j=c.length/\fr=F_ 183 tm/\nth tm 0=.P w/\nth tm 2=.I b/\nth tm 3=.I 0/\nth tm 4=.I d/\nth tm 6=.P h.z/\nth tm 10=.P (h.z+1)/\nth tm 11=V/\nth tm 12=.I (p:Int)/\
   Jb (·=w) [(h.z,.box [.I k,.I i,.str nm,.eL ls,.eT c]),(h.z+1,zB)] (h.z+2) h H V out/\out.length=p/\Wlk H w B nn/\((∀a t,a<p->c[a]?=some t->okS b t (d+bK k a))/\out=(fB b k 0 c d).take p/\B=e\/¬Qi b k 0 c d/\B=fl e)) c.length o_
   ⟨_,0,.nl,[],e,z_ _,rfl,k_,k_,k_,k_,k_,k_,k_,y_,D,rfl,z,.inl ⟨λa t h=>absurd h o_,rfl,rfl⟩⟩ ?_
  clear b6 g nx O z D H;rintro j fr H ⟨tm,p,V,out,B,hp,rfl,t0,t2,t3,t4,P,N,G,M,J,ac,wH,r⟩;have⟨b6,g⟩:=J.c0;have nx:=J.nx;simp only[go_sem,P,M,b6];refine aU (λo=>?_) (λQ=>?_)
  ·have o:p<c.length:=o_;have f:=a_ o;have ha:=aR bH f .i64;have am:=mI k p;have aj:=cH (m_ f);have Z:=aP p o_;have s:=aW (d+bK k p) o_ o_;have c72:=λh=>agO k p h;obtain⟨_,h2,L,x,rfl,y,ho⟩:=ih c[p] (d+bK k p) B H o_ o_ (zQ X (m_ f)) o_ o_ wH (by have:=J.kw.z;omega);have⟨m,u,ho⟩:∃m,Wlk h2 w m nn/\(okS b c[p] (d+bK k p)/\x=cZ b c[p] (d+bK k p)/\m=B\/¬okS b c[p] (d+bK k p)/\m=fl B):=
    ho.elim (λq=>⟨_,q.2.2,.inl ⟨q.1,q.2.1,rfl⟩⟩) λq=>⟨_,q.2,.inr ⟨q.1,rfl⟩⟩
   have⟨V',_,e3,J3,_,k3⟩:=(J.up y.p).add x o_;have F:=J.beq;simp only[go_sem,t0,t2,t3,t4,P,G,M,b6,ha,c72,s,L,e3,Z];refine⟨j-1,o_,_,p+1,V',out++[x],m,o_,rfl,by simp only[go_sem, *],by simp only[go_sem, *],by simp only[go_sem, *],by simp only[go_sem, *],by simp only[go_sem, *],by simp only[go_sem, *],by simp only[go_sem, *],by simp only[go_sem, *],J3,by simp[ac],(k3 w o_).trans u,?_⟩;rcases r with⟨C,q2,rfl⟩|⟨C,rfl⟩
   ·rcases ho with⟨o1,rfl,rfl⟩|⟨o1,rfl⟩
    ·refine .inl ⟨λa t ha E=>?_,?_,rfl⟩
     ·by_cases U:a=p
      ·subst U;rw[f]at E;cases E;exact o1
      exact C a t o_ E
     rw[iN (show(fB b k 0 c d)[p]?=some (cZ b c[p] (d+bK k p)) by rw[wR,f,z_];rfl),q2]
    exact .inr ⟨λq=>o1 (by have:=(Al b k c 0 d).1 q p _ f;rwa[z_]at this),rfl⟩
   refine .inr ⟨C,?_⟩;rcases ho with⟨_,_,rfl⟩|⟨_,rfl⟩
   ·rfl
   exact fl_fl e
  obtain rfl:p=c.length:=o_;have⟨v1,v2⟩:=J.vc;have n1:¬h.z=h.z+1:=o_;have n2:¬h.z+1=h.z:=o_;have⟨_,c3,k3,g3⟩:=J.fin k i nm ls ⟨[(h.z,.box [.I k,.I i,.str nm,.eL ls,V]),(h.z+1,.box [.I k,.I i,.str nm,.eL ls,V])],by simp,rfl⟩;simp only[go_sem,P,N,G,b6,g,v1,v2,n2];refine cG (.inr rfl) (q_ N) c3 ⟨_,rfl,k3.x,?_⟩;have wf:=(g3 w wl).trans wH;rcases r with⟨C,rfl,rfl⟩|⟨C,rfl⟩
  ·exact .inl ⟨by rw[okS,N_ hk,Al];exactλa t E=>by rw[z_];exact C a t (E_.1 E).1 E,by rw[cZ,N_ hk,l_ (by rw[qY];omega)],wf⟩
  exact .inr ⟨by rw[okS,N_ hk];exact C,wf⟩
end
def zero:T:=.mk 0 0 (bs []) [] []
def jh (h:AH):cw (.agg zT) h=(enc zero,h):=jc (iV (ls:=[]) (ks:=[]) rfl rfl) _
@[go_sem] def min_0:AR true [.I 0,.I 65536]=some (.I 0):=(rfl)
def VD (h:AH)(a b c:dF):∃H,H=((h.new a).new b).new c/\HK h H/\H.z=h.z+3/\H.get h.z=some a/\H.get (h.z+1)=some b/\H.get (h.z+2)=some c:=by
 grind [HK.new,aB,aM,aD]
section
variable {K:aN}{h:AH}
def c73 [RunsM K](b:Int)(z : -65536<=b)(x:b<=65536)(t:T)(I:aO t<=20000000000)(B:IB t):Rt K (159) [enc t,.I b,.I 0] h λv G=>∃c e,v=.tup [enc c,.I e]/\HK h G/\(okS b t 0/\c=cZ b t 0/\e=0\/¬okS b t 0/\c=zero/\e=24):=by
 refine aV cf73 ?_;have y:decide (b < -65536)=false:=by simp;omega
 have J:decide (65536<b)=false:=by simp;omega
 have⟨H,A,C,_,D,L,E⟩:=VD h (.box (h_ t)) zB (.box [.I 0,.I 0]);obtain⟨_,p,s,c,rfl,f,ho⟩:=c118 b o_ o_ (aO t) t 0 0 H o_ I B o_ o_ E o_;rw[aJ]at s ⊢;have⟨r,_,k,l,n2,o⟩:=oN p c;simp only[go_sem,y,J,<-A,aB,D,s,k];have m:=l.up (f.up L);have u:HK h r:=⟨by have:=f.z;omega,λa w=>l.up (f.up (C.kw a w))⟩;have n:∀g,Wlk p (h.z+2) g 0->r.get (h.z+2)=some (.box [.I g,.I 0]):=λg q=>l.up q;unfold aG at o;rcases ho with⟨j,F,i⟩|⟨j,i⟩
 ·have d:=n _ i;simp only[go_sem,d,o,m];exact cO g_ k_ (ae (jc (jt (dH _) (ei _)) _) (ae (aL _ _ _) (aH _))) ⟨_,_,rfl,u.set _ o_,.inl ⟨j,F,rfl⟩⟩
 have d:=n 24 i;have n1:¬h.z+1=h.z+1+1:=o_;have n2:¬h.z+1+1=h.z+1:=o_;simp only[go_sem,d,m,n2];exact cO g_ k_ (ae (jh _) (ae (aL _ _ _) (aH _))) ⟨_,_,rfl,u.set _ o_,.inr ⟨j,rfl,rfl⟩⟩
end
theorem wN (b:List T)(k:Int):∀(c:List T) (j:Nat) (d:Int) (a:Nat),(iO b k j c d)[a]?=(c[a]?).map λt=>fM b t (d+bK k ((j+a:Nat):Int))
 |[],_,_,_=>by simp[iO]
 |t::l,j,d,0=>by simp[iO]
 |t::l,j,d,a+1=>by
  have e:=wN b k l (j+1) d a;simp only[iO,List.getElem?_cons_succ,e];rw[show j+1+a=j+(a+1) by omega]
theorem qV (a:List T)(k:Int):∀(b:List T) (j:Nat) (d:Int),(iO a k j b d).length=b.length
 |[],_,_=>rfl
 |t::l,j,d=>by simp[iO,qV a k l (j+1) d]
mutual
def pT (a:Int):∀(t:T) (d:Int),aO (cZ a t d)<=aO t
 |.mk k i nm ls b,d=>by
  unfold cZ;split
  ·split
   ·exact e_ _
   simp only[aO,ba];omega
  simp only[aO];have:=wQ a k b 0 d;omega
def wQ (a k:Int):∀(b:List T) (j:Nat) (d:Int),ba (fB a k j b d)<=ba b
 |[],_,_=>e_ _
 |t::l,j,d=>by simp only[fB,ba];have:=pT a t (d+bK k j);have:=wQ a k l (j+1) d;omega
end
mutual
def vB (a:Int):∀(t:T) (d:Int),0<=d->IB t->okS a t d->IB (cZ a t d)
 |.mk k i nm ls c,d,e,b,ho=>by
  unfold cZ;unfold okS at ho;split
  ·rename_i hk;rw[P_ hk]at ho;split
   ·exact b
   exact⟨λ_=>⟨o_,o_,rfl⟩,trivial⟩
  rename_i hk;rw[N_ hk]at ho;exact⟨λq=>absurd q hk,CY a k c 0 d e b.2 ho⟩
def CY (a k:Int):∀(b:List T) (j:Nat) (d:Int),0<=d->IBs b->Qi a k j b d->IBs (fB a k j b d)
 |[],_,_,_,_,_=>trivial
 |t::l,j,d,e,c,ho=>⟨vB a t _ (by have:=mI k j;omega) c.1 ho.1,CY a k l (j+1) d e c.2 ho.2⟩
end
def jz {a:List T}{p:Nat}{x:T}(h:a[p]?=some x):ba (a.take (p+1))=ba (a.take p)+aO x/\ba (a.take p)+aO x<=ba a:=by
 have b:ba (a.take (p+1))=ba (a.take p)+aO x:=by rw[iN h,dR];simp[ba]
 have c:=dR (a.take (p+1)) (a.drop (p+1));rw[j_]at c;exact⟨b,o_⟩
def Nz:∀{a b:List T},IBs a->IBs b->IBs (a++b)
 |[],_,_,h=>h
 |_::_l,_,h,c=>⟨h.1,Nz h.2 c⟩
def fl_ne (e:Int):fl e≠0:=by unfold fl;split<;>omega
section
variable {K:aN}{w:Nat}
structure SbR (vs:List T)(t:T)(d:Int)(t':T)(e nn e' nn':Int):Prop where
 mono:nn<=nn'
 most:nn'<=nn+90000*aO t
 ok:e'=0->nn'<=4096->e=0/\t'=fM vs t d/\(aO t':Int)<=nn'-nn/\IB t'
def c279 [RunsM K](b:List T)(ad:∀x∈b,aO x<=90000/\IB x)(a5:b.length<=90000):∀(n:Nat) (t:T) (d e nn:Int) (h:AH),aO t<=n->aO t<=90000->IB t->0<=d->d+aO t<=200000->0<=nn->nn<=1000000000000000-90000*aO t->Wlk h w e nn->w<h.z->
  Rt K (149) [.P w,enc t,.eT b,.I d] h λv h'=>∃t' A f,v=enc t'/\HKx w h h'/\Wlk h' w A f/\SbR b t d t' e nn A f:=by
 intro n;induction n with
 |zero=>intro t d e nn h hm;have:=bI t;omega
 |succ n ih=>
  intro t d e nn h hm a0 hv a4 a2 a1 az hw wl;have⟨k,i,nm,ls,g⟩:=t;refine aV cf279 ?_;rw[pQ];simp only[go_sem];have F:=Jb.two (X:=(·=w)) h (.box [.I k,.I i,.str nm,.eL ls,.eT g]) zB (λk hk=>by omega);have L:Wlk ((h.new (.box [.I k,.I i,.str nm,.eL ls,.eT g])).new zB) w e nn:=(((HK.new _ _).add _).kw w wl).trans hw;revert F L;generalize ((h.new (.box [.I k,.I i,.str nm,.eL ls,.eT g])).new zB)=H;intro F L;have⟨b6,l⟩:=F.c0;have nx:=F.nx;have n1:¬h.z=h.z+1:=o_;have n2:¬h.z+1=h.z:=o_;have Q:=F.kw.x;have X:aO (.mk k i nm ls g)=1+ba g:=by simp only[aO]
  have av:=bO g;have⟨an,af⟩:=hv;have B:=L;unfold Wlk at B;simp only[go_sem,aB,B];have same:∀(tm:Tm) (H1:AH) (e1 ay:Int),nth tm 5=.P h.z->True:=λ_ _ _ _ _=>trivial;refine aU (λC=>?_) (λaa=>?_)
  ·simp only[go_sem,b6,l];exact cG (.inr rfl) y_ (jc (iV (dH ls) (ei g)) _) ⟨_,e,nn,rfl,Q.set _ (.inl o_),(aA o_).trans L,⟨Int.le_refl _,o_,λ_ q=>by omega⟩⟩
  simp only[go_sem,b6];by_cases hk:k=0
  ·subst hk;have⟨ak,ap,Y⟩:=an rfl;have m:=aW (i-d) o_ o_;by_cases s:d<=i
   ·have g1:decide (i>=d)=true:=by simpa using s
    by_cases N:i-d<(b.length:Int)
    ·have g2:decide (i-d<(b.length:Int))=true:=by simpa using N
     obtain⟨a,rfl⟩:∃a:Nat,i=d+a:=⟨(i-d).toNat,o_⟩;have ao:a<b.length:=o_;have c:=a_ ao;have hx:d+(a:Int)-d=a:=o_;rw[hx]at m g2;have Z:=aR bH c .i64;have⟨_,U⟩:=ad _ (m_ c);have⟨H1,q1,S,k1,_,g9⟩:=oN H b[a];obtain⟨_,R,z,rfl,r⟩:=c28 (aO b[a]) b[a] H1 (e_ _) o_;have z:=z;have P:=r.up g9;have u:=k1.up B;have y:¬H.z=w:=o_;have n4:¬w=H.z:=o_;have G:=r.up (k1.up B);have D:=r.up (k1.up l);have ar:=aW (nn+(aO b[a]:Int)) o_ o_;have w3:Wlk (R.set w (.box [.I e,.I (nn+aO b[a])])) w e (nn+aO b[a]):=aF _ _ _;obtain⟨_,H4,e4,x,rfl,k4,ho⟩:=c118 d o_ o_ (aO b[a]) b[a] 0 e _ (e_ _) o_ U o_ o_ w3 (by rw[aE];have:=r.z;omega);have am:=aJ b[a];unfold aG at g9 P;rw[am]at z e4 S Z;have q4:=(k4.kw (h.z+1) (by rw[aE];have:=r.z;omega) o_).trans ((aA o_).trans D);have E:=bz q4 x;simp only[go_sem,b6,m,hx,g1,g2,Z,S,z,g9,P,u,G,ar,y,e4,E];have kk:HKx w h H4:=((Q.trans (k1.x w)).trans (r.x w)).trans (((HKx.refl w R).set _ (.inr rfl)).trans k4);have em:(90000:Int)*aO (T.mk 0 (d+a) nm ls g)=90000+90000*ba g:=by rw[X];omega
     rcases ho with⟨o1,rfl,o3⟩|⟨o1,o3⟩
     ·exact nO (cZ d b[a] 0) (by simp only[go_sem,aG]) ⟨_,e,_,rfl,kk.set _ (.inl o_),(aA o_).trans o3,⟨o_,o_,λq _=>⟨q,by rw[fM,P_ rfl,P_ s,hx,G_,c],by have:=pT d b[a] 0;omega,vB d _ 0 o_ U o1⟩⟩⟩
     exact nO x (by simp only[go_sem,aG]) ⟨_,fl e,_,rfl,kk.set _ (.inl o_),(aA o_).trans o3,⟨o_,o_,λq _=>absurd q (fl_ne e)⟩⟩
    have g2:decide (i-d<(b.length:Int))=false:=by simpa using N
    have o:=aW (nn+1) o_ o_;have ai:=aW (i-b.length) o_ o_;have u:Wlk (H.set w (.box [.I e,.I (nn+1)])) w e (nn+1):=aF _ _ _;have y:¬h.z=w:=o_;obtain⟨_,R,z,rfl,r,G⟩:=c131 (i-b.length) u (by rw[aE];omega);have D:=(r.kw (h.z+1) (by rw[aE];omega) o_).trans ((aA o_).trans l);have E:=bz D (.mk 0 (i-b.length) (bs []) [] []);simp only[go_sem,b6,m,g1,g2,B,o,y,ai,z,E];have kk:HKx w h R:=(Q.trans ((HKx.refl w H).set _ (.inr rfl))).trans r;subst Y;rw[P_ o_]at G;refine nO (.mk 0 (i-b.length) (bs []) [] []) (by simp only[go_sem,aG]) ⟨_,e,nn+1,rfl,kk.set _ (.inl o_),(aA o_).trans G,⟨o_,by simp only[aO,ba];omega,λq _=>⟨q,?_,by simp only[aO,ba];omega,⟨λ_=>⟨o_,o_,rfl⟩,trivial⟩⟩⟩⟩;rw[fM,P_ rfl,P_ s,S_ o_]
   have g1:decide (i>=d)=false:=by simpa using s
   have o:=aW (nn+1) o_ o_;have y:¬h.z=w:=o_;have n4:¬h.z+1=w:=o_;simp only[go_sem,b6,g1,B,o,y,n4,l];subst Y;exact cG (.inr rfl) y_ (jc (iV (dH ls) (ei [])) _) ⟨_,e,nn+1,rfl,(Q.set _ (.inr rfl)).set _ (.inl o_),(aA o_).trans (aF _ _ _),⟨o_,by simp only[aO,ba];omega,λq _=>⟨q,by rw[fM,P_ rfl,N_ s],by simp only[aO,ba];omega,⟨λ_=>⟨ak,ap,rfl⟩,trivial⟩⟩⟩⟩
  have ah:decide (k=0)=false:=by simpa using hk
  have o:=aW (nn+1) o_ o_;have y:¬h.z=w:=o_;simp only[go_sem,ah,B,o,y,b6];have J1:=F.up ((HKx.refl w H).set (.box [.I e,.I (nn+1)]) (.inr rfl)).p;have u:Wlk (H.set w (.box [.I e,.I (nn+1)])) w e (nn+1):=aF _ _ _;revert J1 u;generalize H.set w (.box [.I e,.I (nn+1)])=H';intro J1 u;refine bo (λj fr H=>∃tm p V out A f,p+j=g.length/\fr=F_ 149 tm/\nth tm 0=.P w/\nth tm 2=.eT b/\nth tm 3=.I d/\nth tm 5=.P h.z/\nth tm 8=.P (h.z+1)/\nth tm 10=V/\nth tm 11=.I (p:Int)/\
   Jb (·=w) [(h.z,.box [.I k,.I i,.str nm,.eL ls,.eT g]),(h.z+1,zB)] (h.z+2) h H V out/\out.length=p/\Wlk H w A f/\nn+1<=f/\f<=nn+1+90000*ba (g.take p)/\
   (A=0->f<=4096->e=0/\out=(iO b k 0 g d).take p/\(1+ba out:Int)<=f-nn/\IBs out)) g.length o_
   ⟨_,0,.nl,[],e,nn+1,z_ _,rfl,k_,k_,k_,k_,k_,k_,y_,J1,rfl,u,Int.le_refl _,by simp[ba],λq _=>⟨q,rfl,by simp only[ba];omega,trivial⟩⟩ ?_
  clear b6 l nx Q L F J1 u B H H' y;rintro j fr H ⟨tm,p,V,out,A,f,hp,rfl,t0,t2,t3,t5,t8,W,M,J,al,wH,a6,ab,O⟩;have⟨b6,l⟩:=J.c0;have nx:=J.nx;simp only[go_sem,t5,M,b6];refine aU (λC=>?_) (λaa=>?_)
  ·have C:p<g.length:=o_;have c:=a_ C;have Z:=aR bH c .i64;have a7:=mI k p;have⟨_,_⟩:=jz c;have ag:=aP p o_;have m:=aW (d+bK k p) o_ o_;have c72:=λh=>agO k p h;obtain⟨_,_,z,x,aq,ac,rfl,r,G,r2⟩:=ih g[p] (d+bK k p) A f H o_ o_ (zQ af (m_ c)) o_ o_ o_ o_ wH (by have:=J.kw.z;omega);have⟨V',_,e3,J3,_,k3⟩:=(J.up r.p).add x o_;have I:=J.beq;have m1:=r2.mono;have m2:=r2.most;simp only[go_sem,t0,t2,t3,t5,W,M,b6,Z,c72,m,z,e3,ag];refine⟨j-1,o_,_,p+1,V',out++[x],aq,ac,o_,rfl,by simp only[go_sem, *],by simp only[go_sem, *],by simp only[go_sem, *],by simp only[go_sem, *],by simp only[go_sem, *],by simp only[go_sem, *],by simp only[go_sem, *],J3,by simp[al],(k3 w o_).trans G,o_,o_,λq1 q2=>?_⟩;have⟨o1,o2,_,o4⟩:=r2.ok q1 q2;have⟨p1,p2,p3,p4⟩:=O o1 o_;exact⟨p1,by rw[iN (show(iO b k 0 g d)[p]?=some (fM b g[p] (d+bK k p)) by rw[wN,c,z_];rfl),p2,o2],by simp only[dR,ba];omega,Nz p4 ⟨o4,trivial⟩⟩
  obtain rfl:p=g.length:=o_;have⟨v1,v2⟩:=J.vc;have n1:¬h.z=h.z+1:=o_;have n2:¬h.z+1=h.z:=o_;have⟨_,c3,k3,g3⟩:=J.fin k i nm ls ⟨[(h.z,.box [.I k,.I i,.str nm,.eL ls,V]),(h.z+1,.box [.I k,.I i,.str nm,.eL ls,V])],by simp,rfl⟩;simp only[go_sem,t5,t8,W,b6,l,v1,v2,n2];rw[K_]at ab;refine cG (.inr rfl) (q_ t8) c3 ⟨_,A,f,rfl,k3.x,(g3 w wl).trans wH,⟨o_,by rw[X];omega,λq1 q2=>?_⟩⟩;have⟨p1,p2,_,p4⟩:=O q1 q2;rw[l_ (by rw[qV];omega)]at p2;exact⟨p1,by rw[fM,N_ hk,p2],by simp only[aO];omega,⟨λq=>absurd q hk,p4⟩⟩
end
section
variable {K:aN}{h:AH}
def NA:IB zero:=⟨g_,trivial⟩
def SbP (b:List T)(t a:T)(e:Int):Prop:=aO a<=4096/\IB a/\(e=0->a=fM b t 0)/\(e≠0->a=zero)
def c244 [RunsM K](c:List T)(w:∀x∈c,aO x<=90000/\IB x)(r:c.length<=90000)(t:T)(P:aO t<=90000)(Q:IB t):Rt K (108) [enc t,.eT c,.I 0] h λv I=>∃b e,v=.tup [enc b,.I e]/\HK h I/\SbP c t b e:=by
 refine aV cf244 ?_;have⟨H,O,R,_,V,U,W⟩:=VD h (.box (h_ t)) zB (.box [.I 0,.I 0]);obtain⟨_,L,d,b,B,_,rfl,q,C,S⟩:=c279 c w r (aO t) t 0 0 0 H o_ P Q o_ o_ o_ o_ W o_;rw[aJ]at d ⊢;have⟨y,_,u,A,_,k⟩:=oN L b;unfold Wlk at C;have n:=A.up C;have j:=A.up (q.up U);have z:HK h y:=⟨by have:=q.z;have:=o_;omega,λa E=>A.up (q.up (R.kw a E))⟩;have M:¬h.z+1=h.z+1+1:=o_;have J:¬h.z+1+1=h.z+1:=o_;unfold aG at k;simp only[go_sem,<-O,aB,V,d,u,n];have bad:∀(e:Int),e≠0->(∃D d,(AV.tup [enc zero,.I e])=.tup [enc D,.I d]/\HK h (y.set (h.z+1) zB)/\SbP c t D d):=λe l=>⟨zero,e,rfl,z.set _ o_,by unfold zero;simp[aO,ba],NA,o_,g_⟩;refine aU (λs=>?_) (λm=>?_)
 ·simp only[go_sem,j];exact cO g_ k_ (ae (jh _) (ae (aL _ _ _) (aH _))) (bad 5 o_)
 by_cases l:B=0
 ·subst l;have⟨_,_,_,G⟩:=S.ok rfl o_;have p:aO b<=4096:=o_;obtain⟨_,_,g,⟨_,rfl⟩,i⟩:=c29 (aO b) b y o_ o_;have g:=g;rw[aJ]at g;have o:=i.up k;have f:=i.up j;simp only[go_sem,n,k,g];refine aU (λs=>?_) (λm=>?_)
  ·simp only[go_sem,f];exact cO g_ k_ (ae (jh _) (ae (aL _ _ _) (aH _))) ⟨zero,7,rfl,(z.trans i).set _ o_,by unfold zero;simp[aO,ba],NA,o_,g_⟩
  simp only[go_sem,o,f];exact cO g_ k_ (ae (jc (jt (dH _) (ei _)) _) (ae (aL _ _ _) (aH _))) ⟨b,0,rfl,(z.trans i).set _ o_,p,G,g_,o_⟩
 have F:decide (B=0)=false:=by grind
 simp only[go_sem,n,F,j,J];exact cO g_ k_ (ae (jh _) (ae (aL _ _ _) (aH _))) (bad B l)
def agP [RunsM K](a:List T)(f:∀x∈a,aO x<=90000/\IB x)(c:a.length<=90000)(t:T)(k:aO t<=90000)(l:IB t):Rt K (69) [enc t,.eT a] h λv o=>∃b e,v=.tup [enc b,.I e]/\HK h o/\SbP a t b e:=by
 refine aV cf203 ?_;have⟨H,j,m,_,q,p⟩:∃H,H=(h.new (.box (h_ t))).new zB/\HK h H/\H.z=h.z+2/\H.get h.z=some (.box (h_ t))/\H.get (h.z+1)=some zB:=by
  have J:=Jb.two (X:=λ_=>False) h (.box (h_ t)) zB g_;exact⟨_,rfl,J.kw.k,by grind [aB],J.c0⟩
 obtain⟨_,_,g,⟨b,e,rfl,i,n⟩⟩:=c244 (h:=H) a f c t k l;have d:=i.up p;have st:=bz d b;rw[aJ]at g ⊢;simp only[go_sem,<-j,aB,q,g,st];exact cO g_ (by simp only[go_sem,aG]) (ae (jc (jt (dH _) (ei _)) _) (ae (aL _ _ _) (aH _))) ⟨b,e,rfl,(m.trans i).set _ o_,n⟩
end
structure CT where
 s:Int
 n:Int
 f:Int
structure CT.Ok (c:CT):Prop where
 s0:0<=c.s
 s1:c.s<=1000
 n0:0<=c.n
 n1:c.n<=2000
 f0:0<=c.f
 f1:c.f<=40000
def ctB (s n f:Int)(b:Bool):dF:=.box [.I s,.I n,.I f,.I 1000,.bool b]
def Cn (h:AH)(w:Nat):Option CT->Prop
 |some c=>c.Ok/\h.get w=some (ctB c.s c.n c.f false)
 |none=>∃s n f,h.get w=some (ctB s n f true)
def Cn.kw {h a:AH}{w:Nat}{c:Option CT}(x:Cn h w c)(e:a.get w=h.get w):Cn a w c:=by
 cases c with
 |some c=>exact⟨x.1,e.trans x.2⟩
 |none=>have⟨s,n,f,y⟩:=x;exact⟨s,n,f,e.trans y⟩
@[go_sem] def mul_2:qy .mul .i64 2 1000=some (.I 2000):=(rfl)
@[go_sem] def mul_40:qy .mul .i64 40 1000=some (.I 40000):=(rfl)
def FmP (w:Nat)(h:AH)(t:T)(s n d e:Int)(b:Bool)(v:AV)(c:AH):Prop:=v=.tup []/\HKx w h c/\∃a,c.get w=some (ctB s n d a)/\(b=true->a=true)/\(a=false->e=0/\s<=1000/\n<=2000/\d<=40000/\aO t<=2000)
section
variable {K:aN}{h:AH}{w:Nat}
def c102 [RunsM K](t:T)(hs:aO t<=500000000000)(s n f e:Int)(b:Bool)(g:h.get w=some (ctB s n f b))(hw:w<h.z):
  Rt K (109) [.P w,enc t,.I e] h (FmP w h t s n (IntKind.wrap .i64 (f+aO t)) e b):=by
 refine aV cf102 ?_;have⟨H,V,W,_,M⟩:∃H,H=h.new (.box (aG t))/\HK h H/\H.z=h.z+1/\H.get h.z=some (.box (aG t)):=⟨_,rfl,HK.new _ _,aB _ _,aD _ _⟩;obtain⟨_,H1,B,rfl,D⟩:=c28 (aO t) t H (e_ _) hs;have B:=B;have I:=(W.kw w hw).trans g;have v:=D.up I;have ne:¬h.z=w:=o_;have J:¬w=h.z:=o_;have⟨m,j,c⟩:∃m,m=H1.set w (ctB s n (IntKind.wrap .i64 (f+aO t)) b)/\m.get w=some (ctB s n (IntKind.wrap .i64 (f+aO t)) b):=⟨_,rfl,aF _ _ _⟩;have a:m.get h.z=some (.box (aG t)):=by rw[j,aA o_];exact D.up M
 have d:HKx w h m:=by rw[j];exact((W.trans D).x w).set _ (.inr rfl)
 unfold aG at V M a;have n2:h.z<m.z:=by rw[j,aE];have:=D.z;omega
 unfold ctB at I v j c;rw[aJ]at B ⊢;simp only[go_sem,<-V,I,v,M,B,<-j];generalize IntKind.wrap .i64 (f+(aO t:Int))=p at c ⊢;have l:∀(tm:Tm) (E:AH) (y:Bool),HKx w h E->E.get w=some (.box [.I s,.I n,.I p,.I 1000,.bool y])->(b=true->y=true)->(y=false->e=0/\s<=1000/\n<=2000/\p<=40000/\aO t<=2000)->
   Fin agJ (FmP w h t s n p e b) .normal (F_ 109 tm) E:=
  λtm E y k g X j=>⟨rfl,rfl,.inl rfl,[],k_,_,_,rfl,rfl,k,y,g,X,j⟩
 by_cases R:e=0
 ·subst R;by_cases P:1000<s
  ·have i:decide (1000<s)=true:=by simpa using P
   simp only[go_sem,c,i];exact l _ _ true (d.set _ (.inr rfl)) (aF _ _ _) (λ_=>rfl) (λq=>by cases q)
  have i:decide (1000<s)=false:=by simpa using P
  by_cases h2:2000<n
  ·have r:decide (2000<n)=true:=by simpa using h2
   simp only[go_sem,c,i,r];exact l _ _ true (d.set _ (.inr rfl)) (aF _ _ _) (λ_=>rfl) (λq=>by cases q)
  have r:decide (2000<n)=false:=by simpa using h2
  by_cases O:40000<p
  ·have A:decide (40000<p)=true:=by simpa using O
   simp only[go_sem,c,i,r,A];exact l _ _ true (d.set _ (.inr rfl)) (aF _ _ _) (λ_=>rfl) (λq=>by cases q)
  have A:decide (40000<p)=false:=by simpa using O
  obtain⟨_,Y,o,rfl,u⟩:=c28 (aO t) t m (e_ _) hs;have o:=o;rw[aJ]at o;have l2:=d.z;have Q:=u.up c;by_cases U:2000<(aO t:Int)
  ·have C:decide (2000<(aO t:Int))=true:=by simpa using U
   simp only[go_sem,c,i,r,A,a,o,C,Q];exact l _ _ true ((d.trans (u.x w)).set _ (.inr rfl)) (aF _ _ _) (λ_=>rfl) (λq=>by cases q)
  have C:decide (2000<(aO t:Int))=false:=by simpa using U
  obtain⟨_,_,z,⟨G,rfl⟩,N⟩:=c29 (aO t) t Y (e_ _) hs;have z:=z;rw[aJ]at z;have l3:=u.z;have L:=N.up Q;have x:=u.up a;by_cases S:95<G
  ·have F:decide (95<G)=true:=by simpa using S
   simp only[go_sem,c,i,r,A,a,o,C,x,z,F,L];exact l _ _ true (((d.trans (u.x w)).trans (N.x w)).set _ (.inr rfl)) (aF _ _ _) (λ_=>rfl) (λq=>by cases q)
  have F:decide (95<G)=false:=by simpa using S
  simp only[go_sem,c,i,r,A,a,o,C,x,z,F];exact l _ _ b ((d.trans (u.x w)).trans (N.x w)) L id (λ_=>by omega)
 have Z:decide (e=0)=false:=by simpa using R
 simp only[go_sem,Z,c];exact l _ _ true (d.set _ (.inr rfl)) (aF _ _ _) (λ_=>rfl) (λq=>by cases q)
end
def FmR (t:T)(e:Int)(a:Int)(c f:Option CT):Prop:=∀b,f=some b->∃d,c=some d/\e=0/\b.s=d.s+a/\b.n=d.n+a*aO t/\d.f<b.f/\aO t<=2000
section
variable {K:aN}{h:AH}{w:Nat}
def oA {c:Option CT}(x:Cn h w c):∃s n f b,h.get w=some (ctB s n f b)/\((b=true/\c=none)\/(b=false/\∃d,c=some d/\d.Ok/\s=d.s/\n=d.n/\f=d.f)):=by
 cases c with
 |some c=>exact⟨_,_,_,_,x.2,.inr ⟨rfl,c,rfl,x.1,rfl,rfl,rfl⟩⟩
 |none=>have⟨s,n,f,y⟩:=x;exact⟨s,n,f,true,y,.inl ⟨rfl,rfl⟩⟩
def c102n [RunsM K](t:T)(hs:aO t<=500000000000)(e:Int){c:Option CT}(x:Cn h w c)(j:w<h.z):
  Rt K (109) [.P w,enc t,.I e] h λv i=>v=.tup []/\HKx w h i/\∃l,Cn i w l/\FmR t e 0 c l:=by
 have⟨s,n,f,b,g,B⟩:=oA x;obtain⟨_,i,p,rfl,k,z,a,r,o⟩:=c102 t hs s n f e b g j;have E:=bI t;refine⟨_,i,p,rfl,k,?_⟩;rcases B with⟨rfl,rfl⟩|⟨rfl,d,rfl,ok,rfl,rfl,rfl⟩
 ·rw[r rfl]at a;exact⟨none,⟨_,_,_,a⟩,λd q=>by cases q⟩
 cases z with
 |true=>exact⟨none,⟨_,_,_,a⟩,λd q=>by cases q⟩
 |false=>
  have⟨y,A,C,m,u⟩:=o rfl;have j:IntKind.wrap .i64 (d.f+(aO t:Int))=d.f+aO t:=aW _ (by have:=ok.f0;omega) (by have:=ok.f1;omega);rw[j]at a m;exact⟨some ⟨d.s,d.n,d.f+aO t⟩,⟨⟨ok.s0,A,ok.n0,C,by have:=ok.f0;simp only;omega,m⟩,a⟩,λD q=>by cases q;exact⟨d,rfl,y,by simp,by simp,by simp only;omega,u⟩⟩
def FL [RunsM K](t:T)(hs:aO t<=500000000000)(e:Int){c:Option CT}(x:Cn h w c)(hw:w<h.z):
  Rt K (71) [.P w,enc t,.I e] h λv M=>v=enc t/\HKx w h M/\∃z,Cn M w z/\FmR t e 1 c z:=by
 have⟨s,n,f,b,g,Y⟩:=oA x;refine aV afs ?_;have⟨H,q0,V,X,g0,g1⟩:∃H,H=(h.new (.box (h_ t))).new zB/\HK h H/\H.z=h.z+2/\H.get h.z=some (.box (h_ t))/\H.get (h.z+1)=some zB:=by
  have J:=Jb.two (X:=λ_=>False) h (.box (h_ t)) zB (λ_ q=>q.elim);exact⟨_,rfl,J.kw.k,by simp only[aB],J.c0⟩
 have U:=(V.kw w hw).trans g;have n1:¬h.z=w:=o_;have n2:¬w=h.z:=o_;have G:¬h.z+1=w:=o_;have⟨a,k,j⟩:∃a,a=H.set w (ctB (IntKind.wrap .i64 (s+1)) n f b)/\a.get w=some (ctB (IntKind.wrap .i64 (s+1)) n f b):=⟨_,rfl,aF _ _ _⟩;have y:a.get h.z=some (.box (h_ t)):=by rw[k,aA n1];exact g0
 have B:a.get (h.z+1)=some zB:=by rw[k,aA G];exact g1
 have aa:a.z=h.z+2:=by rw[k,aE,X]
 have k1:HKx w h a:=by rw[k];exact(V.x w).set _ (.inr rfl)
 obtain⟨_,H2,A,rfl,u⟩:=c28 (aO t) t a (e_ _) hs;have A:=A;have r:=u.up j;have⟨i,l,m⟩:∃i,i=H2.set w (ctB (IntKind.wrap .i64 (s+1)) (IntKind.wrap .i64 (n+aO t)) f b)/\i.get w=some (ctB (IntKind.wrap .i64 (s+1)) (IntKind.wrap .i64 (n+aO t)) f b):=⟨_,rfl,aF _ _ _⟩;have o:i.get h.z=some (.box (h_ t)):=by rw[l,aA n1];exact u.up y
 have D:i.get (h.z+1)=some zB:=by rw[l,aA G];exact u.up B
 have ab:h.z+2<=i.z:=by rw[l,aE];have:=u.z;omega
 have k3:HKx w h i:=by rw[l];exact(k1.trans (u.x w)).set _ (.inr rfl)
 obtain⟨_,Q,W,rfl,I,b',g4,r1,r2⟩:=c102 t hs _ _ f e b m o_;have C:=(I.kw h.z o_ n1).trans o;have E:=(I.kw (h.z+1) o_ G).trans D;have hp:=bI t;have F:∃z,Cn (Q.set (h.z+1) (.box (h_ t))) w z/\FmR t e 1 c z:=by
  have p:(Q.set (h.z+1) (.box (h_ t))).get w=_:=(aA o_).trans g4;rcases Y with⟨rfl,rfl⟩|⟨rfl,d,rfl,ok,rfl,rfl,rfl⟩
  ·rw[r1 rfl]at p;exact⟨none,⟨_,_,_,p⟩,λd q=>by cases q⟩
  cases b' with
  |true=>exact⟨none,⟨_,_,_,p⟩,λd q=>by cases q⟩
  |false=>
   have⟨Z,N,R,S,p5⟩:=r2 rfl;have L:IntKind.wrap .i64 (d.f+(aO t:Int))=d.f+aO t:=aW _ (by have:=ok.f0;omega) (by have:=ok.f1;omega);have O:IntKind.wrap .i64 (d.n+(aO t:Int))=d.n+aO t:=aW _ (by have:=ok.n0;omega) (by have:=ok.n1;omega);have P:IntKind.wrap .i64 (d.s+1)=d.s+1:=aW _ (by have:=ok.s0;omega) (by have:=ok.s1;omega);rw[L,O,P]at p;rw[L]at S;rw[O]at R;rw[P]at N;exact⟨some ⟨d.s+1,d.n+aO t,d.f+aO t⟩,⟨⟨by have:=ok.s0;simp only;omega,N,by have:=ok.n0;simp only;omega,R,by have:=ok.f0;simp only;omega,S⟩,p⟩,λd' q=>by cases q;exact⟨d,rfl,Z,rfl,by simp,by simp only;omega,p5⟩⟩
 unfold ctB at U k j r l m;rw[aJ]at A W ⊢;simp only[go_sem,<-q0,aB,U,<-k,j,r,y,A,<-l,o,W,C,E];exact nO t (by simp only[go_sem,aG]) ⟨aJ t,(k3.trans I).set _ (.inl o_),F⟩
end
def SzR (t:T)(c b:Option CT):Prop:=∀a,b=some a->c=some a/\aO t<=2000
def SzP (w:Nat)(h:AH)(t:T)(c:Option CT)(v:AV)(a:AH):Prop:=v=enc t/\HKx w h a/\∃b,Cn a w b/\SzR t c b
section
variable {K:aN}{h:AH}{w:Nat}
def agQ [RunsM K](t:T)(hs:aO t<=500000000000){c:Option CT}(x:Cn h w c)(G:w<h.z):
  Rt K (74) [enc t,.P w] h (SzP w h t c):=by
 have⟨s,n,f,b,g,_⟩:=oA x;refine aV cf149 ?_;have⟨H,A,v,_,y,I⟩:∃H,H=(h.new (.box (h_ t))).new zB/\HK h H/\H.z=h.z+2/\H.get h.z=some (.box (h_ t))/\H.get (h.z+1)=some zB:=by
  have J:=Jb.two (X:=λ_=>False) h (.box (h_ t)) zB g_;exact⟨_,rfl,J.kw.k,by grind [aB],J.c0⟩
 have n1:¬h.z=w:=o_;have E:¬h.z+1=w:=o_;have D:=(v.kw w G).trans g;obtain⟨_,F,j,rfl,i⟩:=c28 (aO t) t H o_ hs;obtain⟨_,_,r,⟨z,rfl⟩,k⟩:=c29 (aO t) t F o_ hs;have j:=j;have r:=r;have L:=i.z;have Q:=k.z;have a:=i.up y;have p:=k.up a;have l:=i.up I;have m:=k.up l;have e:=i.up D;have o:=k.up e;have over:∀B:AH,B.get w=some (ctB s n f b)->Cn ((B.set w (ctB s n f true)).set (h.z+1) (.box (h_ t))) w none:=λB _=>⟨s,n,f,by grind [aA,aF]⟩;unfold ctB at D e o over;rw[aJ]at j r ⊢;by_cases N:2000<(aO t:Int)
 ·have u:decide (2000<(aO t:Int))=true:=by grind
  simp only[go_sem,<-A,aB,y,j,u,e,a,l,n1,E];exact nO t (by simp only[go_sem,aG]) ⟨rfl,(((v.trans i).x w).set _ o_).set _ o_,none,g_,λ_ q=>by grind⟩
 have u:decide (2000<(aO t:Int))=false:=by grind
 by_cases h2:95<z
 ·have C:decide (95<z)=true:=by grind
  simp only[go_sem,<-A,aB,y,j,u,a,r,C,o,p,m,n1,E];exact nO t (by simp only[go_sem,aG]) ⟨rfl,((((v.trans i).trans k).x w).set _ o_).set _ o_,none,g_,λ_ q=>by grind⟩
 have C:decide (95<z)=false:=by grind
 simp only[go_sem,<-A,aB,y,j,u,a,r,C,p,m];exact nO t (by simp only[go_sem,aG]) ⟨rfl,(((v.trans i).trans k).x w).set _ o_,c,x.kw ((aA o_).trans g_),λd q=>⟨q,o_⟩⟩
def c16 [RunsM K]:Rt K (11) [] h λv a=>v=.P h.z/\HK h a/\h.z<a.z/\Cn a h.z (some ⟨0,0,0⟩):=by
 refine aV cf16 ?_;simp only[go_sem];exact cG g_ k_ (bS _ _ _ _) ⟨rfl,HK.new _ _,by rw[aB];omega,⟨by simp only;omega,by simp only;omega,by simp only;omega,by simp only;omega,by simp only;omega,by simp only;omega⟩,aD _ _⟩
end
def EO {ts:List T}: ∀{l:List Int} {m:List T},Lk ts l m->l.length=m.length/\∀(i:Nat) (c:Int),l[i]?=some c->∃t,m[i]?=some t/\At ts c t
 |[],[],_=>g_
 |c::l,t::m,h=>by
  have⟨_,_⟩:=EO h.2;refine⟨by grind,λi x q=>?_⟩;cases i with
  |zero=>cases q;exact⟨t,rfl,h.1⟩
  |succ i=>grind
def pw (a:List NV):AV:=.agg [.eN a]
instance (a:List NV):Can (pw a) (.agg [.eN a]):=⟨nL a⟩
section
variable {K:aN}
def c1053 [RunsM K]{a:List NV}{ts:List T}(g:Wg (Mst a ts)):∀(n:Nat) (x:Int) (t:T) (h:AH),x<(n:Int)->At ts x t->(∀nd∈a,nd.K.length<=1000)->Rt K (53) [pw a,.I x,.I 4096] h λv D=>(∃e,v=.I e/\1<=e/\e<=4097*(x+1)/\(e<=4096->e=aO t))/\HK h D:=by
 intro n;induction n with
 |zero=>intro x t h hx u;have:=u.1;omega
 |succ n ih=>
  intro x t h hx u d;obtain⟨i,rfl,hi⟩:=u.nat;have W:i<ts.length:=g_;have P:ts.length=a.length:=g.len;obtain⟨nd,c⟩:∃nd,a[i]?=some nd:=⟨a[i],g_⟩;obtain⟨B,q1,Q,X⟩:=g.node i nd c;have U:=d nd (m_ c);refine aV afE ?_;have I:=aR encN_len c .i64;obtain⟨H,z,O,k⟩:∃H,H=h.new (.box [.eN a])/\HK h H/\H.get h.z=some (.box [.eN a]):=⟨_,rfl,HK.new _ _,aD _ _⟩;have l:h.z<H.z:=by rw[z,aB];omega
  rw[show bU nd=.agg (n_ nd) from rfl]at I;simp only[go_sem,<-z,k,I];refine bo (λj M H=>∃tm p y,p+j=nd.K.length/\M=F_ 53 tm/\nth tm 2=.I 4096/\nth tm 3=.P h.z/\nth tm 7=.I y/\nth tm 8=.eI nd.K/\nth tm 9=.I (p:Int)/\H.get h.z=some (.box [.eN a])/\HK h H/\h.z<H.z/\1<=y/\y<=4097*((i:Int)+1)/\(y<=4096->y=1+ba (B.take p))) nd.K.length o_
   ⟨_,0,1,o_,rfl,k_,k_,k_,k_,y_,k,O,l,o_,o_,λ_=>by simp[ba]⟩ ?_
  clear z O k l H;rintro j M H ⟨tm,p,y,hp,rfl,o,L,b,r,A,k,hk,nx,y1,y2,y3⟩;have J:=Q.len;have G:a.length<=65536:=g.most;have out:∀tm:Tm,nth tm 7=.I y->(y<=4096->y=aO t)->R_ K [.code Ed] (Fin Wr λv D=>(∃e,v=.I e/\1<=e/\e<=4097*((i:Int)+1)/\(e<=4096->e=aO t))/\HK h D) .normal (F_ 53 tm) H:=by
   intro tm b hy;simp only[go_sem,Ed,b];exact cG g_ (v:=.I y) k_ (aL _ _ _) g_
  by_cases aa:p<nd.K.length
  ·have m:decide ((p:Int)<(nd.K.length:Int))=true:=by grind
   by_cases Z:y<=4096
   ·have E:decide (y<=4096)=true:=by grind
    have f:nd.K[p]?=some nd.K[p]:=g_;have s:=aR (f:=AG.bh) (sz:=1) (λ_=>rfl) o_ .i64;obtain⟨tk,m1,S⟩:=(EO Q).2 p _ o_;have F:=X _ (m_ f);obtain⟨_,H2,N,⟨e,rfl,z1,z2,z3⟩,k2⟩:=ih nd.K[p] tk H o_ S d;obtain⟨s1,s2⟩:=jz m1;have C:IntKind.wrap .i64 (y+e)=y+e:=aW _ o_ o_;have Y:=aP p o_;have V:∀h:AH,cC (.vp (AG.bh nd.K[p])) h false 1=some (.I nd.K[p]):=λ_=>rfl;unfold pw at N;simp only[go_sem,o,L,b,r,A,m,E,k,s,V,N,Y,C];exact⟨j-1,o_,_,p+1,y+e,o_,rfl,q_ o,q_ L,k_,q_ r,k_,g_,g_,by have:=k2.z;omega,o_,o_,o_⟩
   have E:decide (y<=4096)=false:=by grind
   simp only[go_sem,o,b,r,A,m,E];exact out _ (q_ b) o_
  have m:decide ((p:Int)<(nd.K.length:Int))=false:=by grind
  simp only[go_sem,r,A,m];exact out _ (q_ b) λq=>by
   have w:p=B.length:=o_;rw[y3 q,w,K_];have:=Option.some.inj (hi.symm.trans q1);rw[this];unfold ndT;simp only[aO];omega
end
section
variable {K:aN}{h:AH}
def c1052 [RunsM K](c:List NV)(x:Int):Rt K (52) [pw c,.I x] h λv d=>v=.bool (decide (0<=x)&&decide (x<(c.length:Int)))/\HK h d:=by
 refine aV afF ?_;by_cases a:0<=x
 ·have b:decide (x>=0)=true:=by simpa using a
  simp only[go_sem,b];exact cG (.inr rfl) (v:=.bool (decide (x<(c.length:Int)))) k_ (bp _ _) ⟨by simp[],HK.new _ _⟩
 have b:decide (x>=0)=false:=by simpa using a
 simp only[go_sem,b];exact cG (.inr rfl) (v:=.bool false) k_ (bp _ _) ⟨by simp[],HK.new _ _⟩
theorem Jb.c3 {X:Nat->Prop}{B a b c:Nat}{g h:AH}{V:AV}{out:List T}{d e f:dF}(J:Jb X [(a,d),(b,e),(c,f)] B g h V out):h.get a=some d/\h.get b=some e/\h.get c=some f:=⟨J.cells (a,d) (by simp),J.cells (b,e) (by simp),J.cells (c,f) (by simp)⟩
def c1054 [RunsM K]{a:List NV}{ts:List T}(g:Wg (Mst a ts))(A:∀nd∈a,nd.K.length<=1000):∀(n:Nat) (x:Int) (t:T) (h:AH),x<(n:Int)->At ts x t->Rt K (54) [pw a,.I x] h λv h'=>v=enc t/\HK h h':=by
 intro n;induction n with
 |zero=>intro x t h hx C;have:=C.1;omega
 |succ n ih=>
  intro x t h hx C;obtain⟨i,rfl,hi⟩:=C.nat;have ad:=(E_.1 hi).1;have aa:ts.length=a.length:=g.len;have⟨nd,f⟩:∃nd,a[i]?=some nd:=⟨a[i],a_ o_⟩;have⟨G,q1,q2,q3⟩:=g.node i nd f;have ac:=A nd (m_ f);have et:t=ndT nd G:=by have:ts[i]?=some (ndT nd G):=q1;rw[hi]at this;exact Option.some.inj this
  refine aV afD ?_;have O:=aR encN_len f .i64;have u:∀h:AH,cC (.vp (bU nd)) h true 5=some (bU nd):=λh=>eA rfl rfl h;rw[show bU nd=.agg (n_ nd) from rfl]at O u;have⟨H,R,U,r,F,g1⟩:∃H,H=(h.new (.box [.eN a])).new zB/\HK h H/\H.z=h.z+2/\H.get h.z=some (.box [.eN a])/\H.get (h.z+1)=some zB:=by
   have J:=Jb.two (X:=λ_=>False) h (.box [.eN a]) zB (λ_ q=>q.elim);exact⟨_,rfl,J.kw.k,by simp only[aB],J.c0⟩
  have⟨d,Z,E,m,y,e,Y⟩:∃d,d=(H.new zB).set H.z (.box (n_ nd))/\d.z=h.z+3/\d.get h.z=some (.box [.eN a])/\d.get (h.z+1)=some zB/\d.get (h.z+2)=some (.box (n_ nd))/\HK h d:=
   ⟨_,rfl,by rw[aE,aB,r],by rw[aA o_,aM o_];exact F,by rw[aA o_,aM o_];exact g1,by rw[<-r];exact aF _ _ _,(U.add _).set _ o_⟩
  have⟨s,qB,k,J0⟩:∃s,s=(d.new zB).set d.z (.box [.I nd.D,.I nd.X,.str nd.N,.eL nd.L,.nl])/\s.get (h.z+3)=some (.box [.I nd.D,.I nd.X,.str nd.N,.eL nd.L,.nl])/\
    Jb (λ_=>False) [(h.z,.box [.eN a]),(h.z+1,zB),(h.z+2,.box (n_ nd))] (h.z+4) h s .nl []:=by
   refine⟨_,rfl,by rw[<-E];exact aF _ _ _,⟨λ_ q=>q.elim,by simp,?_,cV _ _ _ _,((Y.add _).set _ o_).p _,by rw[aE,aB];omega⟩⟩;simp only[X_,List.not_mem_nil,or_false,forall_eq_or_imp,forall_eq];exact⟨by rw[aA o_,aM o_];exact m,by rw[aA o_,aM o_];exact y,by rw[aA o_,aM o_];exact e⟩
  have c:=e;rw[<-r]at c;simp only[go_sem,aB,<-R,F,O,u,<-Z,c,<-qB];refine bo (λj P H=>∃tm p V out,p+j=nd.K.length/\P=F_ 54 tm/\nth tm 2=.P h.z/\nth tm 4=.P (h.z+1)/\nth tm 5=.P (h.z+2)/\nth tm 6=.P (h.z+3)/\nth tm 7=.I (p:Int)/\
   H.get (h.z+3)=some (.box [.I nd.D,.I nd.X,.str nd.N,.eL nd.L,V])/\Jb (λ_=>False) [(h.z,.box [.eN a]),(h.z+1,zB),(h.z+2,.box (n_ nd))] (h.z+4) h H V out/\out=G.take p) nd.K.length o_
   ⟨_,0,.nl,[],z_ _,rfl,k_,k_,q_ r,q_ E,y_,k,J0,rfl⟩ ?_
  clear R U r F g1 H Z E m y e c Y d qB k J0 s;rintro j P H ⟨tm,p,V,out,hp,rfl,X,z,D,B,Q,k,J,ho⟩;have nx:=J.nx;have⟨b0,b1,b2⟩:=J.c3;have⟨_,_⟩:=J.vc;simp only[go_sem,D,Q,b2];refine aU (λw=>?_) (λab=>?_)
  ·have w:p<nd.K.length:=o_;have b:=a_ w;have⟨tk,m1,m2⟩:=(EO q2).2 p _ b;have N:=q3 _ (m_ b);obtain⟨_,_,S,rfl,k2⟩:=ih nd.K[p] tk H o_ m2;have hw:=aP p o_;have hv:∀h:AH,cC (.vp (AG.bh nd.K[p])) h false 1=some (.I nd.K[p]):=λ_=>rfl;have⟨V',_,e3,W,_,M⟩:=(J.up (k2.p _)).add tk (by rw[ho,Y_];omega);have l:=J.beq;have o:=k2.up k;have L:=(M (h.z+3) o_).trans o;have⟨v3,v4⟩:=W.vc;unfold pw at S;simp only[go_sem,X,D,B,Q,k,b0,b2,b,hv,S,o,e3,l,L,v3,v4,hw];exact⟨j-1,o_,_,p+1,V',out++[tk],o_,rfl,q_ X,q_ z,q_ D,q_ B,k_,rfl,W.put _ ⟨o_,o_⟩ (by simp),by rw[iN m1,ho]⟩
  obtain rfl:p=nd.K.length:=o_;rw[(EO q2).1,K_]at ho;subst ho;have⟨_,c3,M,_⟩:=J.fin nd.D nd.X nd.N nd.L ⟨[(h.z+1,.box [.I nd.D,.I nd.X,.str nd.N,.eL nd.L,V])],by simp,rfl⟩;simp only[go_sem,z,B,k,b1];exact cG (.inr rfl) (q_ z) c3 ⟨by rw[et];rfl,M.k⟩
end
section
variable {rs:List bG}{P:AV->AH->Prop}{tm:Tm}{cx:AC}{h2:AH}
def Ka (e:Int)(a:fH rs tm h2=some [.agg zT,.I e])(b:P (.tup [enc zero,.I e]) h2)(c:cx.dfs=[]:=by rfl)(d:cx.rc=.no:=by rfl):Fin rs P .ret ⟨tm,cx⟩ h2:=
 cO g_ a (ae (jh _) (ae (aL _ _ _) (aH _))) b c d
def EP (x:T)(e:Int)(a:fH rs tm h2=some [.agg (aG x),.I e])(b:P (.tup [enc x,.I e]) h2)(c:cx.dfs=[]:=by rfl)(d:cx.rc=.no:=by rfl):Fin rs P .ret ⟨tm,cx⟩ h2:=
 cO g_ a (ae (jc (jt (dH _) (ei _)) _) (ae (aL _ _ _) (aH _))) b c d
end
section
variable {K:aN}{h:AH}
def c1027 [RunsM K]{a:List NV}{ts:List T}(g:Wg (Mst a ts))(b:∀nd∈a,nd.K.length<=1000){x:Int}{t:T}(k:At ts x t):Rt K (27) [pw a,.I x] h λv O=>∃E e,v=.tup [enc E,.I e]/\(e=0->E=t/\aO t<=4096)/\HK h O:=by
 refine aV afU ?_;have⟨H,R,S,_,F,U⟩:∃H,H=(h.new (.box [.eN a])).new zB/\HK h H/\H.z=h.z+2/\H.get h.z=some (.box [.eN a])/\H.get (h.z+1)=some zB:=by
  have J:=Jb.two (X:=λ_=>False) h (.box [.eN a]) zB g_;exact⟨_,rfl,J.kw.k,by grind [aB],J.c0⟩
 have A:ts.length=a.length:=g.len;obtain⟨_,P,m,rfl,j⟩:=c1052 (h:=H) a x;have p:(decide (0<=x)&&decide (x<(a.length:Int)))=true:=by have:=k.1;have:=k.lt.2;simp;omega
 rw[p]at m;obtain⟨_,V,L,⟨_,rfl,_,_,_⟩,l⟩:=c1053 g (x.toNat+1) x t P o_ k b;have l1:=j.z;have l2:=l.z;have D:=j.up F;have M:=j.up U;have r:=l.up D;have c:=l.up M;have I:=(S.trans j).trans l;unfold pw at m L;simp only[go_sem,aB,<-R,F,m,D,L];refine aU (λw=>?_) (λn=>?_)
 ·simp only[go_sem,c];exact Ka 5 k_ ⟨_,_,rfl,o_,I.set _ o_⟩
 have hs:aO t<=500000000000:=o_;obtain⟨_,N,o,rfl,z⟩:=c1054 g b (x.toNat+1) x t V o_ k;have⟨Q,_,d,G,_,u⟩:=oN N t;obtain⟨_,_,C,⟨_,rfl⟩,q⟩:=c29 (aO t) t Q o_ hs;have l3:=z.z;have y:=G.up (z.up c);have i:=q.up y;have B:=q.up u;have f:=((I.trans z).trans G).trans q;unfold pw at o;unfold aG at u B;rw[aJ]at o C d;simp only[go_sem,r,o,d,u,C];refine aU (λw=>?_) (λn=>?_)
 ·simp only[go_sem,i];exact Ka 7 k_ ⟨_,_,rfl,o_,f.set _ o_⟩
 simp only[go_sem,B,i];exact EP t 0 (by simp only[go_sem,aG]) ⟨_,_,rfl,g_,f.set _ o_⟩
end
section
variable {K:aN}{h:AH}{w:Nat}
def ab3 [RunsM K]{i:List NV}{ts:List T}(g:Wg (Mst i ts))(k:∀nd∈i,nd.K.length<=1000){x:Int}{t:T}(l:At ts x t){c:Option CT}(E:Cn h w c)(S:w<h.z):
  Rt K (32) [pw i,.I x,.P w] h λv z=>∃a C,v=.tup [enc a,.I 0]/\HKx w h z/\Cn z w C/\∀d,C=some d->c=some d/\a=t/\aO t<=4096:=by
 have⟨s,n,f,_,O,_⟩:=oA E;refine aV Vd ?_;have⟨H,N,D,_,R,Q⟩:∃H,H=(h.new (.box [.eN i])).new zB/\HK h H/\H.z=h.z+2/\H.get h.z=some (.box [.eN i])/\H.get (h.z+1)=some zB:=by
  have J:=Jb.two (X:=λ_=>False) h (.box [.eN i]) zB g_;exact⟨_,rfl,J.kw.k,by grind [aB],J.c0⟩
 have y:ts.length=i.length:=g.len;have L:decide (x<0)=false:=by have:=l.1;simp;omega
 have P:decide (x>=(i.length:Int))=false:=by have:=l.lt.2;simp;omega
 obtain⟨_,A,r,a,e,rfl,_,j⟩:=c1027 (h:=H) g k l;have⟨_,_,o,m,_,p⟩:=oN A a;have X:=j.z;have u:=m.up (j.up Q);have B:=m.up (j.up ((D.kw w S).trans O));have M:¬h.z+1=w:=o_;have I:¬A.z=w:=o_;have F:=(D.trans j).trans m;unfold pw at r;unfold aG at p;unfold ctB at B;simp only[go_sem,aB,<-N,L,R,P,r,o];by_cases q:e=0
 ·subst q;simp only[go_sem,p,u];exact EP a 0 (by simp only[go_sem,aG]) ⟨a,c,rfl,(F.x w).set _ o_,E.kw ((aA o_).trans g_),g_⟩
 have U:decide (e=0)=false:=by grind
 simp only[go_sem,U,B,p,u,M,I];exact EP a 0 (by simp only[go_sem,aG]) ⟨a,none,rfl,((F.x w).set _ o_).set _ o_,⟨s,n,f,(aA o_).trans (aF _ _ _)⟩,g_⟩
def Vv [RunsM K]{gs:List NV}{x:Int}(hx:x<0\/(gs.length:Int)<=x):
  Rt K (32) [pw gs,.I x,.P w] h λv e=>v=.tup [enc zero,.I 2]/\HK h e:=by
 refine aV Vd ?_;have⟨H,c,d,_,f,b⟩:∃H,H=(h.new (.box [.eN gs])).new zB/\HK h H/\H.z=h.z+2/\H.get h.z=some (.box [.eN gs])/\H.get (h.z+1)=some zB:=by
  have J:=Jb.two (X:=λ_=>False) h (.box [.eN gs]) zB g_;exact⟨_,rfl,J.kw.k,by grind [aB],J.c0⟩
 by_cases i:x<0
 ·have a:decide (x<0)=true:=by grind
  simp only[go_sem,aB,<-c,a,b];exact Ka 2 k_ ⟨rfl,d.set _ o_⟩
 have a:decide (x<0)=false:=by grind
 have g:decide (x>=(gs.length:Int))=true:=by simp;omega
 simp only[go_sem,aB,<-c,a,f,g,b];exact Ka 2 k_ ⟨rfl,d.set _ o_⟩
end
section
variable {K:aN}{h:AH}
def c1115 [RunsM K](l:List T)(C:l.length<=90000):Rt K (115) [.eT l] h λv u=>v=.eT l.reverse/\HK h u:=by
 refine aV aeY ?_;have c:=aW ((l.length:Int)-1) o_ o_;simp only[go_sem,c];refine bo (λj i H=>∃tm p V,p+j=l.length/\i=F_ 115 tm/\nth tm 0=.eT l/\nth tm 3=V/\nth tm 4=.I ((l.length:Int)-1-p)/\Jb (λ_=>False) [] h.z h H V (l.reverse.take p)) l.length o_
  ⟨_,0,.nl,o_,rfl,k_,k_,by simp only[go_sem];simp,⟨g_,by simp,by simp,cV _ _ _ _,(HK.refl h).p _,o_,o_⟩⟩ ?_
 rintro j i H ⟨tm,p,V,z,rfl,t0,f,o,J⟩;by_cases x:p<l.length
 ·have b:decide ((l.length:Int)-1-p>=0)=true:=by simp;omega
  have m:l[l.length-1-p]?=some l[l.length-1-p]:=g_;have a:(l.length:Int)-1-p=((l.length-1-p:Nat):Int):=o_;have e:=aR bH o_ .i64;have d:l.reverse[p]?=some l[l.length-1-p]:=by grind
  have⟨r,_,q,n,_,_⟩:=J.add l[l.length-1-p] (by rw[Y_];omega);have t:IntKind.wrap .i64 ((l.length:Int)-1-p-1)=(l.length:Int)-1-(p+1:Nat):=by rw[aW _ o_ o_];omega
  rw[<-a]at e;rw[<-iN d]at n;simp only[go_sem,t0,f,o,b,e,q,t];exact⟨j-1,o_,_,p+1,r,o_,rfl,q_ t0,k_,k_,n⟩
 obtain rfl:p=l.length:=o_;have b:decide ((l.length:Int)-1-(l.length:Int)>=0)=false:=by simp;omega
 rw[l_ (by simp)]at J;have⟨_,s,n2,y⟩:=rQ (f:=enc) iU g_ J.own;simp only[go_sem,o,b,f];refine cG g_ (v:=V) k_ s ⟨rfl,⟨by rw[n2];exact J.kw.z,λk hk=>(y k o_).trans (J.kw.kw k hk id)⟩⟩ ?_;obtain⟨_,⟨rfl,_⟩|⟨_,_,rfl,_⟩⟩:=J.own<;>(grind)
end
def Vp {K:aN}[RunsM K](a:List DV)(nm:ByteArray)(h:AH)(c:∀d∈a,DS d)(g:a.length<1000):
  Rt K (150) [.eD a,.str nm] h λv b=>v=xJ (fG nm a 0)/\HK h b:=by
 obtain⟨_,b,e,⟨_,_,rfl,hx,_⟩,k⟩:=QX (h:=h) a nm c g;refine⟨_,b,e,?_,k⟩;rcases hx with⟨rfl,q⟩|⟨rfl,rfl,q⟩
 ·rw[q];rfl
 rw[q];rfl
def abM {K:aN}[RunsM K](a:List DV)(nm:ByteArray)(h:AH)(Y:∀d∈a,DS d)(hl:a.length<1000):
  Rt K (153) [.eD a,.str nm] h λv Q=>v=rY a nm/\HK h Q:=by
 refine aV aeC ?_;have⟨H,M,k1,_,g4⟩:=nw h (.box zD);unfold zD at M;simp only[go_sem];rw[<-M];clear M;obtain⟨_,w,x,rfl,T⟩:=Vp a nm H Y hl;have R:=T.up g4;have n2:=T.z;have E:=k1.trans T;have fin:∀(tm:Tm) (l:AH) (e:AEx) (z:List AV) (j:Int) (b:Bool) (r:AV),(e=.normal\/e=.ret)->nth tm 4=.P h.z->nth tm 5=.I j->nth tm 6=.bool b->HK h l->l.get h.z=some (.box z)->z.length=23->cw (.agg z) l=(r,l)->rY a nm=.tup [r,.I j,.bool b]->
   Fin Qw (λv Q=>v=rY a nm/\HK h Q) e (F_ 153 tm) l:=by
  intro tm l e z j b r X t4 t5 Z kk g N V hf;refine⟨rfl,rfl,X,[.agg z,.I j,.bool b],?_,_,l,bF (ae o_ (ae (aL _ _ _) (ae (bp _ _) (aH _)))),g_,kk⟩;unfold Qw;rw[jv,jP,jP,mQ,t4,t5,Z,cE g N];rfl
 cases q:fG nm a 0 with
 |none=>
  rw[q]at x;have i:=aS (k:=h.z) (h:=(w.new (.box zE)).set w.z (.box [.I 0,.I 0,.I 0,.I 0,.I 0,.I 0,.str (bs []),.ls [],.ls []])) (vs:=zD) (sz:=23) (by rw[aA o_,aM o_];omega) rfl rfl;rw[qj]at x;unfold zD zE at i;simp only[go_sem,x,i];refine fin _ _ _ zD 0 false _ g_ k_ k_ k_ ?_ (by rw[aF];rfl) rfl (ox _) (by unfold rY;rw[q];rfl);exact((E.add _).set (j:=w.z) _ o_).set (j:=h.z) _ o_
 |some e=>
  have ent:=jm a a 0 e g_ q;have D:∃n d,e.decl=(n:Nat)/\a[n]?=some d/\(e.D=0\/e.D=1\/e.D=2\/e.D=3\/e.D=4\/e.D=5\/e.D=6):=by
   cases ent with
   |plain k n d p t P O I=>grind
   |ctor n j d c p P O I=>grind
   |rcr n d p t P O=>grind
   |fn n j d f p P O I=>grind
  have⟨_,d,hn,_,_⟩:=D;have S:rY a nm=if e.D=3 then .tup [gJ d,.I (-1),.bool true] else if e.D=4 then .tup [gJ d,.I e.item,.bool true] else if e.D=5 then .tup [gJ d,.I (-2),.bool true] else aag:=by
   grind [rY,G_]
  rw[q]at x;have G:=aR encD_len o_ .i64;have m:=λh=>eA (v:=gJ d) (sz:=23) rfl rfl h;have s:=aS (h:=w.new (.box zE)) (vs:=aY e) (sz:=9) (aD _ _) rfl rfl;have⟨l,A,W,_,y⟩:=ns w (.box zE) (.box (aY e));rw[<-A]at s;clear A;have F:=W.up R;have i:=aS (vs:=aQ d) (sz:=23) F rfl rfl;have B:=aS (vs:=zD) (sz:=23) F rfl rfl;have u:∀o,(l.set h.z o).get w.z=some (.box (aY e)):=λo=>by grind [aA]
  have kf:∀o,HK h (l.set h.z o):=λo=>(E.trans W).set _ o_;rw[bX]at G m;rw[qh,hG]at x;unfold zE at s;unfold zD at B;unfold aY at y u;rw[hn]at y u;simp only[go_sem,x,s,y];by_cases I:e.D=3
  ·have C:decide (e.D=3)=true:=g_;simp only[go_sem,C,y,G,m,i];exact fin _ _ _ (aQ d) (-1) true _ g_ k_ k_ k_ g_ (aF _ _ _) rfl (by rw[<-bX];exact xM d _) (by grind)
  have C:decide (e.D=3)=false:=g_;by_cases h4:e.D=4
  ·have J:decide (e.D=4)=true:=g_;simp only[go_sem,C,J,y,u,G,m,i];exact fin _ _ _ (aQ d) e.item true _ g_ k_ k_ k_ g_ (aF _ _ _) rfl (by rw[<-bX];exact xM d _) (by grind)
  have J:decide (e.D=4)=false:=g_;by_cases h5:e.D=5
  ·have L:decide (e.D=5)=true:=g_;simp only[go_sem,C,J,L,y,G,m,i];exact fin _ _ _ (aQ d) (-2) true _ g_ k_ k_ k_ g_ (aF _ _ _) rfl (by rw[<-bX];exact xM d _) (by grind)
  have L:decide (e.D=5)=false:=g_;simp only[go_sem,C,J,L,B];exact fin _ _ _ zD 0 false _ g_ k_ k_ k_ g_ (by rw[aF];rfl) rfl (ox _) (by rw[S,N_ I,N_ h4,N_ h5];rfl)
abbrev zTr:List AV:=[.I 0,.I 0,.I 0,.str (bs []),.nl,.nl,.I 0,.nl]
section
variable {K:aN}{h:AH}
def c1155 [RunsM K](t:gK)(nm:ByteArray)(S:(cm t).length<1000):Rt K (155) [.agg (bc t),.str nm] h λv w=>v=chV (chs nm (cm t))/\HK h w:=by
 refine aV aeA ?_;have⟨H,E,F,N,e,l⟩:∃H,H=(h.new (.box (bc t))).new (.box zTr)/\HK h H/\H.z=h.z+2/\H.get h.z=some (.box (bc t))/\H.get (h.z+1)=some (.box zTr):=by
  have J:=Jb.two (X:=λ_=>False) h (.box (bc t)) (.box zTr) g_;exact⟨_,rfl,J.kw.k,by grind [aB],J.c0⟩
 have m:=vW (h:=h) (bc t) 8 rfl;simp only[go_sem,m,aB,<-E];refine bo (λj D H=>∃tm p,p+j=(cm t).length/\D=F_ 155 tm/\nth tm 1=.str nm/\nth tm 2=.P h.z/\nth tm 4=.P (h.z+1)/\nth tm 6=.I (p:Int)/\HK h H/\h.z+2<=H.z/\H.get h.z=some (.box (bc t))/\H.get (h.z+1)=some (.box zTr)/\chs nm (cm t)=chs nm ((cm t).drop p)) (cm t).length o_
  ⟨_,0,o_,rfl,k_,k_,k_,y_,F,o_,e,l,rfl⟩ ?_
 clear E F N e l H m;rintro j D H ⟨tm,p,R,rfl,x,q,d,r,hk,nx,e,l,B⟩;have fin:∀(tm:Tm) (o f:List AV) (b:Bool),nth tm 4=.P (h.z+1)->nth tm 5=.bool b->o.length=8->(∀H,cw (.agg o) H=(.agg f,H))->chV (chs nm (cm t))=.tup [.agg f,.bool b]->
   Fin Qu (λv w=>v=chV (chs nm (cm t))/\HK h w) .ret (F_ 155 tm) (H.set (h.z+1) (.box o)):=by
  intro tm o f b d Q z n L;refine cO g_ (l:=[]) ?_ (ae (n _) (ae (bp _ _) (aH _))) ⟨L.symm,hk.set _ o_⟩;unfold Qu;rw[jv,jP,mQ,d,Q,cE (aF _ _ _) z];rfl
 unfold bc fS at e;simp only[go_sem,q,r,e];refine aU (λA=>?_) (λM=>?_)
 ·have A:p<(cm t).length:=o_;have a:(cm t)[p]?=some (cm t)[p]:=g_;revert a;generalize (cm t)[p]=b;intro a;have C:=aR encBr_len o_ .i64;rw[vU a]at B;have⟨c,k,g⟩:=b;have G:cy (.vp (nK (.mk c k g))) 0 1 false=some (.vp (.str c)):=by rw[jx];rfl
  have I:cy (.vp (nK (.mk c k g))) 1 1 false=some (.vp (.bool k)):=by rw[jx];rfl
  have O:cy (.vp (nK (.mk c k g))) 2 8 true=some (.vp (.agg (bc g))):=by rw[jx];rfl
  have P:∀h,cC (.vp (.bool k)) h false 1=some (.bool k):=λ_=>rfl;have i:=aS (vs:=bc g) (sz:=8) l rfl rfl;have y:=aP p o_;have n1:¬h.z=h.z+1:=o_;by_cases hs:c=nm
  ·have s:decide (c=nm)=true:=g_;simp only[go_sem,x,q,d,r,e,C,G,I,O,P,s,i,n1];exact fin _ (bc g) (bc g) (!k) (q_ d) k_ rfl (oL _) (by rw[B,chs,P_ hs];rfl)
  have s:decide (c=nm)=false:=g_;simp only[go_sem,x,q,r,e,C,G,s,y];exact⟨j-1,o_,_,p+1,o_,rfl,q_ x,q_ q,q_ d,k_,hk,nx,by first|rfl|exact e,l,by grind [chs]⟩
 have u:p=(cm t).length:=o_;have i:=aS (vs:=zTr) (sz:=8) l rfl rfl;simp only[go_sem,d,i];exact fin _ zTr [.I 0,.I 0,.I 0,.str (bs []),.ls [],.ls [],.I 0,.ls []] false (q_ d) k_ rfl (λH=>by rw[bQ (by simp[AV.free,AV.frees])];simp[AV.norm,AV.norms]) (by rw[B,u,List.drop_length];rfl)
end
def ym (d:DV):Int:=max 0 (((fD d.type).length:Int)-d.f)
section
variable {K:aN}{h:AH}
def c1152 [RunsM K](d:DV)(u:0<=d.f)(r:d.f<=1000000)(j:aO d.type<50000):Rt K (152) [gJ d] h λv k=>v=.I (ym d)/\HK h k:=by
 refine aV aeD ?_;have⟨H,i,_,_,b⟩:∃H:AH,H=h.new (.box (aQ d))/\HK h H/\H.z=h.z+1/\H.get h.z=some (.box (aQ d)):=⟨_,rfl,HK.new _ _,aB _ _,aD _ _⟩;obtain⟨_,n,e,rfl,m⟩:=abI d.type H j;have l:=m.up b;have⟨_,_,c,o,_,_⟩:=oN n (qv d.type);have f:=o.up l;have p:=iM _ d.type (e_ _);have a:IntKind.wrap .i64 (((fD d.type).length:Int)-d.f)=((fD d.type).length:Int)-d.f:=aW _ o_ o_;have g:=b;unfold aQ at g f;rw[aJ d.type]at e;rw[bX];simp only[go_sem,<-i,g,e,c,f,a];exact cG g_ (v:=.I (ym d)) (by rfl) (aL _ _ _) g_
def WN [RunsM K](d:DV)(o:0<=d.f)(f:d.f<=1000000)(g:aO d.type<50000)(t:d.C.length<=1000000):Rt K (112) [gJ d] h λv j=>v=.I (d.f+1+d.C.length+ym d)/\HK h j:=by
 refine aV ae1 ?_;have⟨H,n,_,_,a⟩:∃H:AH,H=h.new (.box (aQ d))/\HK h H/\H.z=h.z+1/\H.get h.z=some (.box (aQ d)):=⟨_,rfl,HK.new _ _,aB _ _,aD _ _⟩;obtain⟨_,_,b,rfl,l⟩:=c1152 (h:=H) d o f g;have c:=l.up a;have p:=iM _ d.type (e_ _);have hi:0<=ym d/\ym d<=50000:=by unfold ym;omega
 have i:=aW (d.f+1) o_ o_;have k:=aW (d.f+1+(d.C.length:Int)) o_ o_;have m:=aW (d.f+1+(d.C.length:Int)+ym d) o_ o_;have e:=a;unfold aQ at e c;rw[bX]at b ⊢;simp only[go_sem,<-n];unfold aQ at b;simp only[go_sem,e,c,b,i,k,m];exact cG g_ (v:=.I (d.f+1+d.C.length+ym d)) k_ (aL _ _ _) g_
end
def usV (a:List DV)(t:T):AV:=match fG t.N a 0 with
 |some e=>.tup [.agg (aY e),.bool (decide ((t.L.length:Int)=e.Q))]
 |none=>.tup [.agg zEl,.bool false]
section
variable {K:aN}{h:AH}
def abP [RunsM K](a:List DV)(t:T)(B:∀d∈a,DS d)(D:a.length<1000):Rt K (110) [.eD a,enc t] h λv w=>v=usV a t/\HK h w:=by
 refine aV ae3 ?_;have⟨H,y,z,_,A,F⟩:∃H,H=(h.new (.box (h_ t))).new (.box zE)/\HK h H/\H.z=h.z+2/\H.get h.z=some (.box (h_ t))/\H.get (h.z+1)=some (.box zE):=by
  have J:=Jb.two (X:=λ_=>False) h (.box (h_ t)) (.box zE) g_;exact⟨_,rfl,J.kw.k,by grind [aB],J.c0⟩
 obtain⟨_,f,q,rfl,j⟩:=Vp a t.N H B D;have M:=j.z;have N:=j.up A;have L:=j.up F;have n1:¬h.z=h.z+1:=o_;have n2:¬f.z=h.z+1:=o_;have fin:∀(tm:Tm) (c:AH) (o i:List AV) (b:Bool),nth tm 4=.P (h.z+1)->nth tm 5=.bool b->HK h c->o.length=9->(∀H,cw (.agg o) H=(.agg i,H))->usV a t=.tup [.agg i,.bool b]->
   Fin QF (λv w=>v=usV a t/\HK h w) .ret (F_ 110 tm) (c.set (h.z+1) (.box o)):=by
  intro tm c o i b E C I u l p;refine cO g_ (l:=[]) ?_ (ae (l _) (ae (bp _ _) (aH _))) ⟨p.symm,I.set _ o_⟩;unfold QF;rw[jv,jP,mQ,E,C,cE (aF _ _ _) u];rfl
 rw[aJ];unfold zE at y;simp only[go_sem,<-y,aB,A];cases p:fG t.N a 0 with
 |none=>
  rw[p,qj]at q;have st:=aS (h:=f.new (.box zE)) (vs:=zEl) (sz:=9) (aD _ _) rfl rfl;have⟨c,n⟩:∃c,c=(f.new (.box zE)).set f.z (.box zEl):=⟨_,rfl⟩;have k:c.get f.z=some (.box zEl):=by grind [aF]
  have x:HK h c:=by rw[n];exact((z.trans j).add _).set _ o_
  have r:c.get (h.z+1)=some (.box zE):=by grind [aA,aM]
  have g:=aS (vs:=zEl) (sz:=9) r rfl rfl;rw[<-n]at st;unfold zEl at k st g;unfold zE at st;simp only[go_sem,q,st,k,g];exact fin _ _ zEl zEl false k_ k_ x rfl (MY) (by grind [usV])
 |some e=>
  rw[p,qh,hG]at q;have st:=aS (h:=f.new (.box zE)) (vs:=aY e) (sz:=9) (aD _ _) rfl rfl;have⟨c,n⟩:∃c,c=(f.new (.box zE)).set f.z (.box (aY e)):=⟨_,rfl⟩;have m:c.get f.z=some (.box (aY e)):=by grind [aF]
  have x:HK h c:=by rw[n];exact((z.trans j).add _).set _ o_
  have r:c.get (h.z+1)=some (.box zE):=by grind [aA,aM]
  have s:c.get h.z=some (.box (h_ t)):=by grind [aA,aM]
  have g:=aS (vs:=aY e) (sz:=9) r rfl rfl;have G:=cE (sz:=9) m rfl;have k:=m;rw[<-n]at st;unfold aY at k;unfold zE at st;simp only[go_sem,q,st,G,k,s,g,n1,n2];exact fin _ _ (aY e) (aY e) (decide ((t.L.length:Int)=e.Q)) k_ k_ x rfl (Vg e) (by grind [usV])
end
theorem tU:∀(l:List T) (n:Nat),(bJ (l.map enc)).drop (n*5)=bJ ((l.drop n).map enc)
 |[],n=>by simp[lQ]
 |t::l,0=>by simp
 |t::l,n+1=>by
  rw[List.map_cons,cK,List.drop_succ_cons,<-tU l n,show(n+1)*5=(enc t).cells.length+n*5 by rw[bH];omega,List.drop_append];simp
def Rw (a:Nat)(h:AH)(V:AV)(l:List T):Prop:=(V=.nl/\l=[])\/∃k g b c fz,V=.row k g 5 b l.length/\h.get k=some (.row g 5 true c fz)/\uo true 5 l.length (c.drop (b*5))=some (l.map enc)/\a<=k/\k<h.z
def Rw.can {a:Nat}{h:AH}{V:AV}{l:List T}(o:Rw a h V l):∃b,cw V h=(.eT l,b)/\b.z=h.z/\∀j,j<a->b.get j=h.get j:=by
 rcases o with⟨rfl,rfl⟩|⟨k,g,c,i,fz,rfl,f,d,m,p⟩
 ·exact⟨h,rfl,rfl,g_⟩
 refine⟨h.set k (.row g 5 true i (max fz ((c+l.length)*5))),?_,aE _ _ _,λj n=>aA o_⟩;show((nI _ h).1.norm,(nI _ h).2)=_;have e:=uY f d;grind [nI,dM,AV.norm,bB,iU]
def AS (V:AV)(n:Nat):AV:=match V with
 |.row k g a _ m=>.row k g a n (m-n)
 |v=>v
def Rw.of {a:Nat}{h:AH}{V:AV}{l:List T}(o:Own a 5 true h V (l.map enc)){n:Nat}(f:n<=l.length):Rw a h (AS V n) (l.drop n)/\AV.beq (AS V n) (AS V n)=true/\(∀H,lenOf V H 1=some l.length)/\
  ∀(tm:Tm) (x:AX),ev x tm=.I (n:Int)->fb 5 V tm (some x) none=some (AS V n):=by
 obtain⟨_,⟨rfl,d⟩|⟨k,g,rfl,hk,c,b⟩⟩:=o
 ·rw[List.map_eq_nil_iff]at d;subst d;obtain rfl:n=0:=by grind
  refine⟨.inl ⟨rfl,rfl⟩,rfl,λ_=>rfl,λtm x e=>?_⟩;show aI (some 0) _=_;rw[aK];show aI (some 0) _=_;rw[aK,oV e (e_ _),aK];rfl
 refine⟨.inr ⟨k,g,n,_,0,by simp[AS],hk,?_,b,c⟩,gQ _,λ_=>by simp[zH],λtm x e=>?_⟩
 ·grind [tU,mH,enc,bH,jo,L_]
 show aI (some ((l.map enc).length)) _=_;rw[aK,L_];show aI (some l.length) _=_;rw[aK,oV e f,aK];show cond (Nat.beq 5 5) (some (AV.row k g 5 (0+n) (l.length-n))) none=_;simp[AS]
def fam_cases3 (a:List DV)(nm:ByteArray):(∃m j b,rY a nm=.tup [.agg m,.I j,.bool b]/\m.length=23/\(b=false\/j<0)/\um a nm=none)\/
  ∃(d:DV) (l:Nat) (c:CtV),d∈a/\rY a nm=.tup [gJ d,.I (l:Int),.bool true]/\d.C[l]?=some c/\um a nm=some (d.N,l,(fD c.type).length,d.f.toNat,c.N)/\d.D=3:=by
 unfold rY um;cases o:fG nm a 0 with
 |none=>exact .inl ⟨_,_,_,rfl,rfl,.inl rfl,rfl⟩
 |some e=>
  have ent:=jm a a 0 e (λj=>by rw[z_]) o;simp only;cases ent with
  |plain k n d p t g i h=>
   simp only[G_,g];rw[N_ (show ¬k=4 by omega),N_ (show ¬k=4 by omega),N_ (show ¬k=5 by omega)];by_cases q:k=3
   ·rw[P_ q];exact .inl ⟨_,_,_,rfl,rfl,.inr o_,rfl⟩
   rw[N_ q];exact .inl ⟨_,_,_,rfl,rfl,.inl rfl,rfl⟩
  |ctor n j d c p g i h=>
   simp only[G_,g,h];exact .inr ⟨d,j,c,m_ g,rfl,h,rfl,i⟩
  |rcr n d p t g i=>
   simp only[G_,g];exact .inl ⟨_,_,_,rfl,rfl,.inr o_,rfl⟩
  |fn n j d f p g i h=>
   simp only[G_,g];exact .inl ⟨_,_,_,rfl,rfl,.inl rfl,rfl⟩
def ctP (b:List DV)(inst:T->List LL->Option T)(t:T)(v:AV):Prop:=(v=.tup [.agg zDl,.I 0,.ls [],.bool false]/\cR (Ce b inst) t=none)\/
 ∃(d:DV) (e:Nat) (c:CtV) (a:FZ),d∈b/\d.C[e]?=some c/\v=.tup [gJ d,.I (e:Int),.eT a.fields,.bool true]/\cR (Ce b inst) t=some a/\a.fam=d.N/\a.j=e/\a.N=c.N/\ba a.fields<=aO t/\a.fields.length<=400
section
variable {K:aN}{h:AH}
def abL [RunsM K](g:List DV)(inst:T->List LL->Option T)(eg:Eg g)(t:T)(hs:aO t<=500000000000):Rt K (154) [.eD g,enc t] h λv h'=>ctP g inst t v/\HK h h':=by
 refine aV aeB ?_;have⟨H,q0,k0,_,g0,g1⟩:∃H,H=(h.new (.box (h_ t))).new (.box zD)/\HK h H/\H.z=h.z+2/\H.get h.z=some (.box (h_ t))/\H.get (h.z+1)=some (.box zD):=by
  have J:=Jb.two (X:=λ_=>False) h (.box (h_ t)) (.box zD) (λ_ q=>q.elim);exact⟨_,rfl,J.kw.k,by simp only[aB],J.c0⟩
 obtain⟨_,H1,e1,⟨V,rfl,o1⟩,k1⟩:=acU (aO t) t H (e_ _) hs;have⟨H2,_,ak,Q,_,E⟩:=oN H1 (aT t).1;have l1:=k1.z;have l2:=Q.z;have f1:=Q.up (k1.up g1);have o2:=bP o1 Q.z (λa D q=>Q.kw a q);have kk:=(k0.trans k1).trans Q;have p:∀H,jB [.agg zD,.I 0,.nl,.bool false] H=([.agg zDl,.I 0,.ls [],.bool false],H):=λH=>ae (ox H) (ae (aL _ _ _) (ae (dL _) (ae (bp _ _) (aH _))));unfold aG at E;unfold zD at q0;rw[aJ]at e1 ⊢;unfold acf;simp only[go_sem,<-q0,aB,Lo,g0,e1,ak,Lp,E];by_cases hk:(aT t).1.D=3
 ·have L:decide ((aT t).1.D=3)=true:=by simpa using hk
  obtain⟨_,m,B,rfl,G⟩:=abM g (aT t).1.N H2 eg.ds eg.len;have l3:=G.z;have f3:=G.up f1;have o3:=bP o2 G.z (λa D q=>G.kw a q);rcases fam_cases3 g (aT t).1.N with⟨cs,j,b,z,Y,al,y⟩|⟨d,w,c,R,z,hc,y,ah⟩
  ·rw[z]at B;have k:cR (Ce g inst) t=none:=by
    unfold cR;rw[P_ hk];show(match um g (aT t).1.N with|some (fam,j,n,l,nm)=>_|none=>none)=_;rw[y]
   have st:=aS (h:=m.new (.box zD)) (vs:=cs) (sz:=23) (aD _ _) rfl Y;have⟨o,x⟩:∃o,o=(m.new (.box zD)).set m.z (.box cs):=⟨_,rfl⟩;have A:HK m o:=by rw[x];exact(HK.new _ _).set _ (e_ _)
   have f4:=A.up f3;have i:=aS (vs:=zD) (sz:=23) f4 rfl rfl;rw[<-x]at st;have aj:=(kk.trans G).trans A;have fin:∀tm,fH Qv tm (o.set (h.z+1) (.box zD))=some [.agg zD,.I 0,.nl,.bool false]->
     Fin Qv (λv h'=>ctP g inst t v/\HK h h') .ret (F_ 154 tm) (o.set (h.z+1) (.box zD)):=λtm hr=>
    cO (.inr rfl) hr (p _) ⟨.inl ⟨rfl,k⟩,aj.set _ o_⟩
   unfold zD at st i fin;cases b with
   |false=>
    simp only[go_sem,L,vE,E,B,st,vF,i];exact fin _ k_
   |true=>
    have dj:decide (j<0)=true:=by simpa using al
    simp only[go_sem,L,vE,E,B,st,vF,dj,i];exact fin _ k_
  rw[z]at B;have Z:=eg.dg d R;have O:=m_ hc;have ao:=Z.fx2 ah c O;have af:=Z.fx0;have ct:=Z.cty c O;have W:cR (Ce g inst) t=if (aT t).2.length=(fD c.type).length/\d.f.toNat<=(fD c.type).length then some ⟨d.N,w,c.N,(aT t).2.drop d.f.toNat⟩ else none:=by
   unfold cR;rw[P_ hk];show(match um g (aT t).1.N with|some (fam,j,n,l,nm)=>_|none=>none)=_;rw[y]
  have st:=aS (h:=m.new (.box zD)) (vs:=aQ d) (sz:=23) (aD _ _) rfl rfl;have⟨o,x⟩:∃o,o=(m.new (.box zD)).set m.z (.box (aQ d)):=⟨_,rfl⟩;have A:HK m o:=by rw[x];exact(HK.new _ _).set _ (e_ _)
  have n4:o.z=m.z+1:=by rw[x,aE,aB]
  have g4:o.get m.z=some (.box (aQ d)):=by rw[x];exact aF _ _ _
  have f4:=A.up f3;rw[<-x]at st;obtain⟨_,H5,P,⟨f,rfl,_,ag⟩,F⟩:=abH (h:=o) d w c hc af o_ ct.1;have P:=P;have l5:=F.z;have g5:=F.up g4;have f5:=F.up f4;have o5:=bP (bP o3 A.z (λa D q=>A.kw a q)) F.z (λa D q=>F.kw a q);have S:=((kk.trans G).trans A).trans F;have N:=cE (sz:=23) g4 rfl;have ab:=cE (sz:=23) g5 rfl;have u:d.f+f=((fD c.type).length:Int):=by rw[ag];omega
  have hw:IntKind.wrap .i64 (((fD c.type).length:Int))=((fD c.type).length:Int):=aW _ o_ o_;have U:decide ((w:Int)<0)=false:=by simp
  have s:∀H,lenOf V H 1=some (aT t).2.length:=(Rw.of o5 (n:=0) (Nat.zero_le _)).2.2.1;have C:=g4;have r:=g5;unfold aQ at C r;rw[bX]at B P;unfold zD at st;by_cases hq:(aT t).2.length=(fD c.type).length
  ·have dq:decide (((aT t).2.length:Int)=((fD c.type).length:Int))=true:=t_;simp only[go_sem,L,vE,E,B,st,vF,U,C,r,s,N,P,u,hw,dq];have⟨l,M⟩:∃n:Nat,d.f=n:=⟨d.f.toNat,o_⟩;have⟨_,_,_,ad⟩:=Rw.of o5 (n:=l) o_;have ac:∀(tm:Tm),nth tm 52=.I d.f->fb 5 V tm (some (.t 52)) none=some (AS V l):=λtm q=>ad tm (.t 52) (q.trans (by rw[M]));have ai:=aS (vs:=aQ d) (sz:=23) f5 rfl rfl;have m1:¬m.z=h.z+1:=o_;have m2:¬h.z+1=m.z:=o_;simp only[go_sem,Lq,ab,r,ai,ac,m1];have⟨I,X⟩:∃I,I=H5.set (h.z+1) (.box (aQ d)):=⟨_,rfl⟩;have o6:Own H.z 5 true I V ((aT t).2.map enc):=bP o5 (by rw[X,aE];exact e_ _) (λa D _=>by rw[X,aA o_]);have⟨H7,c7,n7,k7⟩:=(Rw.of o6 (n:=l) o_).1.can;have k6:HK h I:=by rw[X];exact S.set _ o_
   have cD:cw (.agg (aQ d)) I=(gJ d,I):=by rw[<-bX];exact xM d _
   have ap:=kY _ t (e_ _);refine cO (l':=[gJ d,.I (w:Int),.eT ((aT t).2.drop l),.bool true]) (h3:=H7) (.inr rfl) (a:=.agg (aQ d)) (b:=.I (w:Int)) (l:=[AS V l,.bool true]) y_ (by
    show jB _ (H5.set (h.z+1) (.box (aQ d)))=_;rw[<-X];exact ae cD (ae (aL _ _ _) (ae c7 (ae (bp _ _) (aH _)))))
    ⟨.inr ⟨d,w,c,⟨d.N,w,c.N,(aT t).2.drop l⟩,R,hc,rfl,by rw[W,P_ o_,M,G_],rfl,rfl,rfl,?_,by show((aT t).2.drop l).length<=400;rw[List.length_drop];have:=ct.2;omega⟩,⟨by rw[n7];exact k6.z,λa D=>(k7 a o_).trans (k6.kw a D)⟩⟩
   have e:=dR ((aT t).2.take l) ((aT t).2.drop l);rw[j_]at e;show ba ((aT t).2.drop l)<=aO t;omega
  have dq:decide (((aT t).2.length:Int)=((fD c.type).length:Int))=false:=d_;have i:=aS (vs:=zD) (sz:=23) f5 rfl rfl;unfold zD at i;simp only[go_sem,L,vE,E,B,st,vF,U,C,r,s,N,P,u,hw,dq,i];have k:cR (Ce g inst) t=none:=by rw[W,N_ o_]
  exact cO (.inr rfl) y_ (p _) ⟨.inl ⟨rfl,k⟩,S.set _ o_⟩
 have L:decide ((aT t).1.D=3)=false:=by simpa using hk
 have i:=aS (vs:=zD) (sz:=23) f1 rfl rfl;unfold zD at i;simp only[go_sem,L,i];refine cO (.inr rfl) ?_ (p _) ⟨.inl ⟨rfl,by unfold cR;rw[N_ hk]⟩,kk.set _ o_⟩;simp only[go_sem];rfl
end
def paB (b:List DV)(t:T)(a:Nat):Bool:=decide (t.D=3)&&match oD b t.N t.L.length with
 |.fn c _=>decide (a<c)
 |_=>false
section
variable {K:aN}{h:AH}
def c1160 [RunsM K](g:List DV)(D:Eg g)(t:T)(a:Nat):Rt K (160) [.eD g,enc t,.I (a:Int)] h λv E=>v=.bool (paB g t a)/\HK h E:=by
 refine aV aew ?_;have⟨H,V,N,_,u⟩:∃H:AH,H=h.new (.box (h_ t))/\HK h H/\H.z=h.z+1/\H.get h.z=some (.box (h_ t)):=⟨_,rfl,HK.new _ _,aB _ _,aD _ _⟩;obtain⟨_,r,i,rfl,z⟩:=abP (h:=H) g t D.ds D.len;have fin:∀(tm:Tm) (l:AH) (b:Bool),nth tm 6=.bool b->HK h l->paB g t a=b->Fin VZ (λv E=>v=.bool (paB g t a)/\HK h E) .ret (F_ 160 tm) l:=λtm l b U G Q=>
  cG g_ (v:=.bool b) (q_ U) (bp _ _) g_
 rw[aJ]at i ⊢;simp only[go_sem,<-V,u];by_cases hk:t.D=3
 ·have o:decide (t.D=3)=true:=by grind
  have G:=N.trans z;cases m:fG t.N g 0 with
  |none=>
   have st:=aS (h:=r.new (.box zE)) (vs:=zEl) (sz:=9) (aD _ _) rfl rfl;unfold usV at i;rw[m]at i;unfold zEl zE at st;unfold zEl at i;simp only[go_sem,o,u,i,st];exact fin _ _ false k_ ((G.add _).set _ (by have:=z.z;omega)) (by unfold paB oD;rw[m];simp)
  |some e=>
   have st:=aS (h:=r.new (.box zE)) (vs:=aY e) (sz:=9) (aD _ _) rfl rfl;have⟨l,R⟩:∃l,l=(r.new (.box zE)).set r.z (.box (aY e)):=⟨_,rfl⟩;have w:l.get r.z=some (.box (aY e)):=by grind [aF]
   have I:HK h l:=by rw[R];exact(G.add _).set _ (by have:=z.z;omega)
   rw[<-R]at st;unfold usV at i;rw[m]at i;unfold zE at st;unfold aY at w;by_cases J:(t.L.length:Int)=e.Q
   ·have x:decide ((t.L.length:Int)=e.Q)=true:=by grind
    have ent:=jm g g 0 e g_ m;by_cases S:e.D=6
    ·have C:decide (e.D=6)=true:=by grind
     have⟨n,j,d,f,M,P,L,s⟩:∃(n j:Nat) (d:DV) (f:FnV),e.decl=n/\e.item=j/\g[n]?=some d/\d.F[j]?=some f:=by
      cases ent with
      |plain k n d p t B A O=>simp only at S;omega
      |ctor n j d c p B A O=>grind
      |rcr n d p t B A=>grind
      |fn n j d f p B A O=>grind
     have Q:=aR encFn_len s .i64;have y:cy (.vp (gJ d)) 22 1 false=some (.vp (.ls (d.F.map gk))):=by rw[bX];rfl
     have F:∀h,cC (.vp (.ls (d.F.map gk))) h false 1=some (.ls (d.F.map gk)):=λ_=>rfl;have X:∀h,cC (.vp (.I f.a)) h false 1=some (.I f.a):=λ_=>rfl;have W:=(D.dg d g_).F f g_;rw[M,P]at w;simp only[go_sem,o,u,i,x,st,w,C,L,Q,y,F,X];refine fin _ _ (decide ((a:Int)<f.a)) k_ I ?_;unfold paB oD;rw[m];simp only[hk,decide_true,Bool.true_and,P_ J.symm,M,G_,L,S,P,s];rw[N_ o_,N_ o_,P_ trivial];simp only[decide_eq_decide];omega
    have C:decide (e.D=6)=false:=by grind
    simp only[go_sem,o,u,i,x,st,w,C];refine fin _ _ false k_ I ?_;grind [paB,oD,decide_true]
   have x:decide ((t.L.length:Int)=e.Q)=false:=by grind
   simp only[go_sem,o,u,i,x,st];refine fin _ _ false k_ I ?_;unfold paB oD;rw[m];simp only[N_ (show ¬e.Q=(t.L.length:Int) fromλq=>J q.symm)];simp
 have o:decide (t.D=3)=false:=by grind
 simp only[go_sem,o];exact fin _ _ false k_ N (by grind [paB])
end
def agU (l:List Int)(x:Int)(L:List Int):Prop:=(∀y,y∈L<->y∈l\/y=x)/\L.length<=l.length+1
def BJ {l:List Int}{m:Nat}(a:m<l.length)(y:Int):y∈l.take (m+1)<->y∈l.take m\/y=l[m]:=by
 rw[List.take_succ_eq_append_getElem a];simp only[List.mem_append,W_]
section
variable {K:aN}{h:AH}
def c129 [RunsM K](l:List Int)(x:Int)(hl:l.length<100000000000):Rt K (227) [.eI l,.I x] h λv w=>(∃L:List Int,v=.eI L/\agU l x L)/\HK h w:=by
 refine aV cf129 ?_;have fin:∀(tm:Tm) (H:AH) (V:AV) (L:List Int),fH acH tm H=some [V]->HK h H->Own h.z 1 false H V (L.map AG.bh)->agU l x L->
   Fin acH (λv w=>(∃L:List Int,v=.eI L/\agU l x L)/\HK h w) .ret (F_ 227 tm) H:=by
  intro tm H V L Z hk o Q;have⟨I,M,n2,T⟩:=rQ (f:=AG.bh) (λ_=>rfl) (λ_=>rfl) o;refine cG (.inr rfl) Z M ⟨⟨L,rfl,Q⟩,⟨by rw[n2];exact hk.z,λk q=>(T k o_).trans (hk.kw k q)⟩⟩ ?_;obtain⟨_,⟨rfl,_⟩|⟨_,_,rfl,_⟩⟩:=o<;>(intro l e;cases e)
 simp only[go_sem];refine bo (λj P H=>∃tm m out v done,m+j=l.length/\P=F_ 227 tm/\nth tm 0=.eI l/\nth tm 1=.I x/\nth tm 5=v/\nth tm 6=.bool done/\nth tm 7=.I (m:Int)/\HK h H/\
  Own h.z 1 false H v (List.map AG.bh out)/\(∀y,y∈out<->y∈l.take m\/(done=true/\y=x))/\out.length=m+cond done 1 0) l.length o_
  ⟨_,0,[],.nl,false,z_ _,rfl,k_,k_,k_,k_,y_,HK.refl h,cV _ _ _ _,by simp,by simp⟩ ?_
 rintro j P H ⟨tm,m,out,v,done,hm,rfl,i,r,u,t,p,hk,ho,b,a⟩;have nx:=hk.z;simp only[go_sem,i,p];have X:out.length<=m+1:=by cases done<;>simp at a<;>omega
 refine aU (λf=>?_) (λR=>?_)
 ·have f:m<l.length:=o_;have c:=a_ f;have F:∀h:AH,cC (.vp (AG.bh l[m])) h false 1=some (.I l[m]):=λ_=>rfl;have B:=aP m o_;simp only[go_sem,i,r,p,c,F];refine aU (λO=>?_) (λO=>?_)
  ·simp only[go_sem,i];refine cG (.inr rfl) (v:=.eI l) k_ (eQ _ _) ⟨⟨l,rfl,λy=>⟨.inl,?_⟩,o_⟩,hk⟩;rintro(h|rfl)
   ·exact h
   exact O▸List.getElem_mem f
  have step:∀(tm:Tm) (E:AH) (out:List Int) (v:AV) (done:Bool),nth tm 0=.eI l->nth tm 1=.I x->nth tm 5=v->nth tm 6=.bool done->nth tm 7=.I ((m+1:Nat):Int)->HK h E->Own h.z 1 false E v (List.map AG.bh (out++[l[m]]))->(∀y,y∈out<->y∈l.take m\/(done=true/\y=x))->out.length=m+cond done 1 0->
    ∃N,N<j/\∃d G out v done,G+N=l.length/\((F_ 227 tm):AF)=F_ 227 d/\nth d 0=.eI l/\nth d 1=.I x/\nth d 5=v/\nth d 6=.bool done/\nth d 7=.I (G:Int)/\HK h E/\
     Own h.z 1 false E v (List.map AG.bh out)/\(∀y,y∈out<->y∈l.take G\/(done=true/\y=x))/\out.length=G+cond done 1 0:=by
   intro tm E out v done i r u t p hk ho b a;refine⟨j-1,o_,tm,m+1,out++[l[m]],v,done,o_,rfl,i,r,u,t,p,hk,ho,λy=>?_,by simp[a];omega⟩;rw[BJ f,List.mem_append,b];simp only[W_];constructor<;>intro h<;>rcases h with(h|h)|h<;>simp[h]
  have up:∀{J I:AH},HK h J->J.z<=I.z->(∀k,k<h.z->I.get k=J.get k)->HK h I:=λq n e=>⟨C_ q.z n,λk hk=>(e k hk).trans (q.kw k hk)⟩;simp only[go_sem,i,r,p,c,F];refine qE (λC=>?_) (λC=>?_)
  ·simp only[go_sem,t,C];cases done with
   |true=>
    have⟨D,w,s,o',A,z,_,_,_⟩:=eY (.I l[m]) ho;simp only[go_sem,i,u,p,c,F,s,B];exact step _ _ out D true (by simp only[go_sem, *]) (by simp only[go_sem, *]) (by simp only[go_sem, *]) (by simp only[go_sem, *]) (by simp only[go_sem, *]) (up hk A z) (by simpa [AG.bh] using o') b a
   |false=>
    have⟨D,w,s,o',A,z,_,_,_⟩:=eY (.I x) ho;have⟨Y,_,M,S,U,W,_,_,_⟩:=eY (.I l[m]) o';simp only[go_sem,i,r,u,p,c,F,s,M,B];exact step _ _ (out++[x]) Y true (by simp only[go_sem, *]) (by simp only[go_sem, *]) (by simp only[go_sem, *]) (by simp only[go_sem, *]) (by simp only[go_sem, *]) (up (up hk A z) U W) (by simpa [AG.bh] using S) (λy=>by rw[List.mem_append,b];simp) (by simp at a;simp[a])
  have⟨D,w,s,o',A,z,_,_,_⟩:=eY (.I l[m]) ho;simp only[go_sem,i,u,p,c,F,s,B,C];exact step _ _ out D done (by simp only[go_sem, *]) (by simp only[go_sem, *]) (by simp only[go_sem, *]) (by simp only[go_sem, *]) (by simp only[go_sem, *]) (up hk A z) (by simpa [AG.bh] using o') b a
 obtain rfl:m=l.length:=o_;rw[K_]at b;simp only[go_sem,t];cases done with
 |true=>
  simp only[go_sem,u];exact fin _ _ v out k_ hk ho ⟨λy=>by rw[b];simp,by simp at a;omega⟩
 |false=>
  have⟨D,_,s,o',A,z,_,_,_⟩:=eY (.I x) ho;simp only[go_sem,r,u,s];exact fin _ _ D (out++[x]) k_ ⟨C_ nx A,λk q=>(z k q).trans (hk.kw k q)⟩ (by simpa [AG.bh] using o') ⟨λy=>by rw[List.mem_append,b];simp,by simp at a;simp;omega⟩
end
theorem GX (k:Int):∀(e:List T) (j:Nat) (d:Int),ue k j e d=true<->∃(a:Nat) (t:T),e[a]?=some t/\occ t (d+bK k ((j+a:Nat):Int))=true
 |[],_,_=>by simp[ue]
 |t::l,j,d=>by
  rw[ue,Bool.or_eq_true,GX k l (j+1) d];constructor
  ·rintro(h|⟨a,x,b,c⟩)
   ·exact⟨0,t,rfl,h⟩
   exact⟨a+1,x,by simpa using b,by rwa[show j+(a+1)=j+1+a by omega]⟩
  rintro⟨a,x,b,c⟩;cases a with
  |zero=>cases b;exact .inl c
  |succ a=>exact .inr ⟨a,x,by simpa using b,by rwa[show j+1+a=j+(a+1) by omega]⟩
def WK (l:List Int)(t:T)(d:Int)(L:List Int):Prop:=(∀y,0<=y->(y∈L<->y∈l\/occ t (d+y)=true))/\L.length<=l.length+aO t
section
variable {K:aN}
def c91 [RunsM K]:∀(n:Nat) (t:T) (d:Int) (l:List Int) (h:AH),aO t<=n->aO t+l.length<=20000000000->IB t->0<=d->d+aO t<=20000000000->
  Rt K (216) [.eI l,enc t,.I d] h λv N=>(∃L:List Int,v=.eI L/\WK l t d L)/\HK h N:=by
 intro n;induction n with
 |zero=>intro t d l h hm;have:=bI t;omega
 |succ n ih=>
  intro t d l h hm h8 hv aa F;have⟨k,i,nm,ls,c⟩:=t;refine aV cf91 ?_;have⟨H,Z,G,_,s⟩:∃H:AH,H=h.new (.box [.I k,.I i,.str nm,.eL ls,.eT c])/\HK h H/\H.z=h.z+1/\H.get h.z=some (.box [.I k,.I i,.str nm,.eL ls,.eT c]):=⟨_,rfl,HK.new _ _,aB _ _,aD _ _⟩;have S:aO (.mk k i nm ls c)=1+ba c:=by simp only[aO]
  have Y:=bO c;rw[S]at hm h8 F;have⟨x,I⟩:=hv;have loop:∀(tm:Tm) (H:AH) (w:List Int),nth tm 0=.eI w->nth tm 2=.I d->nth tm 4=.P h.z->H.get h.z=some (.box [.I k,.I i,.str nm,.eL ls,.eT c])->HK h H->h.z<H.z->w.length<=l.length+1->
    (∀y,0<=y->(y∈w<->y∈l\/(k=0/\i=d+y)))->
    R_ K [.code VM] (Fin r91 λv N=>(∃L:List Int,v=.eI L/\WK l (.mk k i nm ls c) d L)/\HK h N) .normal (F_ 216 tm) H:=by
   intro tm H w t0 z u g hk B M e;simp only[go_sem,VM];refine bo (λj V H=>∃tm p L,p+j=c.length/\V=F_ 216 tm/\nth tm 0=.eI L/\nth tm 2=.I d/\nth tm 4=.P h.z/\nth tm 7=.I (p:Int)/\H.get h.z=some (.box [.I k,.I i,.str nm,.eL ls,.eT c])/\HK h H/\h.z<H.z/\
    L.length<=l.length+1+ba (c.take p)/\∀y,0<=y->(y∈L<->y∈l\/(k=0/\i=d+y)\/∃(a:Nat) (t:T),a<p/\c[a]?=some t/\occ t (d+y+bK k a)=true)) c.length o_
    ⟨_,0,w,z_ _,rfl,q_ t0,q_ z,q_ u,y_,g,hk,B,by simp[ba];omega,λy o=>by rw[e y o];simp⟩ ?_
   clear t0 z u g hk B M e tm H;rintro j V H ⟨tm,p,L,hp,rfl,t0,z,u,W,g,hk,B,hL,e⟩;simp only[go_sem,u,W,g];refine aU (λA=>?_) (λr=>?_)
   ·have A:p<c.length:=o_;have b:=a_ A;have ac:=mI k p;have⟨_,_⟩:=jz b;have J:=aP p o_;have P:=aW (d+bK k p) o_ o_;have c72:=λh=>agO k p h;obtain⟨_,_,e2,⟨L2,rfl,D,U⟩,O⟩:=ih c[p] (d+bK k p) L H o_ o_ (zQ I (m_ b)) o_ o_;simp only[go_sem,t0,z,u,W,g,b,c72,P,e2,J];refine⟨j-1,o_,_,p+1,L2,o_,rfl,k_,q_ z,q_ u,k_,(O.kw _ B).trans g,hk.trans O,by have:=O.z;omega,o_,λy o=>?_⟩;rw[D y o,e y o,show d+bK k p+y=d+y+bK k p by omega];constructor
    ·rintro((h|h|⟨a,t,X,f,m⟩)|h)
     ·exact .inl h
     ·exact .inr (.inl h)
     ·exact .inr (.inr ⟨a,t,o_,f,m⟩)
     exact .inr (.inr ⟨p,_,o_,b,h⟩)
    rintro(h|h|⟨a,t,X,f,m⟩)
    ·exact .inl (.inl h)
    ·exact .inl (.inr (.inl h))
    by_cases q:a=p
    ·subst q;rw[b]at f;cases f;exact .inr m
    exact .inl (.inr (.inr ⟨a,t,o_,f,m⟩))
   obtain rfl:p=c.length:=o_;simp only[go_sem,t0];refine cG (.inr rfl) (v:=.eI L) k_ (eQ _ _) ⟨⟨L,rfl,λy o=>?_,by rw[K_]at hL;omega⟩,hk⟩;rw[e y o,occ];by_cases q:k=0
   ·obtain⟨_,_,rfl⟩:=x q;simp[q]
   rw[N_ q,GX];constructor
   ·rintro(h|h|⟨a,t,X,f,m⟩)
    ·exact .inl h
    ·cases q h.1
    exact .inr ⟨a,t,f,by rw[z_];exact m⟩
   rintro(h|⟨a,t,f,m⟩)
   ·exact .inl h
   rw[z_]at m;exact .inr (.inr ⟨a,t,(E_.1 f).1,f,m⟩)
  rw[pQ];simp only[go_sem,<-Z,s];by_cases hk:k=0
  ·have C:decide (k=0)=true:=by simpa using hk
   have⟨_,_,_⟩:=x hk;by_cases r:i>=d
   ·have Q:decide (i>=d)=true:=by simpa using r
    have hw:=aW (i-d) o_ o_;obtain⟨_,_,e1,⟨L,rfl,D,U⟩,E⟩:=c129 (h:=H) l (i-d) o_;simp only[go_sem,C,Q,s,hw,e1];exact loop _ _ L k_ k_ k_ (E.up s) (G.trans E) (by have:=E.z;omega) U (λy o=>by rw[D y];exact⟨λq=>q.imp id λq=>⟨hk,o_⟩,λq=>q.imp id λq=>by omega⟩)
   have Q:decide (i>=d)=false:=by simpa using r
   simp only[go_sem,C,Q,s];exact loop _ _ l k_ k_ k_ s G o_ o_ (λy o=>⟨.inl,λq=>q.elim id λq=>by omega⟩)
  have C:decide (k=0)=false:=by simpa using hk
  simp only[go_sem,C];exact loop _ _ l k_ k_ k_ s G o_ o_ (λy o=>⟨.inl,λq=>q.elim id λq=>absurd q.1 hk⟩)
end
section
variable {K:aN}{h:AH}
def c45 [RunsM K](t:T)(hs:aO t<=20000000000)(d:IB t):Rt K (192) [enc t] h λv b=>(∃L:List Int,v=.eI L/\WK [] t 0 L)/\HK h b:=by
 refine aV cf45 ?_;have⟨H,c,_,e⟩:∃H:AH,H=h.new (.box (h_ t))/\HK h H/\H.get h.z=some (.box (h_ t)):=⟨_,rfl,HK.new _ _,aD _ _⟩;obtain⟨_,g,_,⟨L,rfl,_⟩,_⟩:=c91 (aO t) t 0 [] H o_ o_ d o_ o_;have a:cS K (.fn (216) [] []) [.nl,enc t,.I 0] .no H=some (.ret (.eI L),.no,g):=by
  rw[dJ (c:=[]) (ae (dL _) (ae (cJ _ _) (ae (aL _ _ _) (aH _)))) (ae (eQ [] _) (ae (cJ _ _) (ae (aL _ _ _) (aH _))))];grind
 rw[aJ]at a ⊢;simp only[go_sem,<-c,e,a];exact cG g_ (v:=.eI L) k_ (eQ _ _) g_
def c1158 [RunsM K](t:T)(hs:aO t<=20000000000)(i:IB t):Rt K (158) [enc t,.I 0] h λv u=>v=.bool (occ t 0)/\HK h u:=by
 refine aV aex ?_;have⟨H,m,n,w⟩:∃H:AH,H=h.new (.box (h_ t))/\HK h H/\H.get h.z=some (.box (h_ t)):=⟨_,rfl,HK.new _ _,aD _ _⟩;obtain⟨_,_,e,⟨L,rfl,_,s⟩,x⟩:=c45 (h:=H) t hs i;have y:=n.trans x;simp only[List.length_nil]at s;rw[aJ]at e ⊢;simp only[go_sem,<-m,w,e];refine bo (λj f H=>∃tm p,p+j=L.length/\f=F_ 158 tm/\nth tm 1=.I 0/\nth tm 5=.eI L/\nth tm 6=.I (p:Int)/\HK h H/\(0:Int) ∉ L.take p) L.length o_
  ⟨_,0,o_,rfl,k_,k_,by rfl,y,by simp⟩ ?_
 rintro j f C ⟨tm,p,B,rfl,g,d,c,hk,b⟩;simp only[go_sem,d,c];refine aU (λa=>?_) (λr=>?_)
 ·have a:p<L.length:=o_;have k:L[p]?=some L[p]:=g_;have l:=aR (f:=AG.bh) (sz:=1) (λ_=>rfl) o_ .i64;have z:=aP p o_;simp only[go_sem,g,d,c,l];refine aU (λo=>?_) (λo=>?_)
  ·simp only[go_sem];exact cG g_ (v:=.bool true) k_ (bp _ _) g_
  simp only[go_sem,c,z];exact⟨j-1,o_,_,p+1,o_,rfl,q_ g,q_ d,k_,hk,λq=>(BJ a 0).1 q |>.elim b λq=>o_⟩
 obtain rfl:p=L.length:=o_;simp only[go_sem];exact cG g_ (v:=.bool false) k_ (bp _ _) g_
def c242 [RunsM K](c:Int):Rt K (224) [.I c] h λv a=>v=cB ⟨c,[]⟩/\HK h a:=by
 refine aV cf242 ?_;simp only[go_sem];exact cG g_ (v:=.agg [.I c,.nl]) k_ (KQ c _) ⟨rfl,(HK.new _ _).set _ o_⟩
def c200 [RunsM K](l:List LL)(t:l.length<=1000000)(s:∀x∈l,x.V.length<10000000):Rt K (212) [.eL l] h λv o=>(∃b,v=.bool b/\(b=true<->∀x∈l,VL x))/\HK h o:=by
 refine aV cf200 ?_;simp only[go_sem];refine bo (λj i H=>∃tm p,p+j=l.length/\i=F_ 212 tm/\nth tm 0=.eL l/\nth tm 3=.I (p:Int)/\HK h H/\∀x∈l.take p,VL x) l.length o_
  ⟨_,0,o_,rfl,k_,by rfl,g_,by simp⟩ ?_
 rintro j i H ⟨tm,p,r,rfl,t0,f,hk,g⟩;simp only[go_sem,t0,f];refine aU (λn=>?_) (λm=>?_)
 ·have a:l[p]?=some l[p]:=g_;have hm:=m_ a;have e:=aR fj o_ .i64;have c:=λh=>eA (v:=cB l[p]) (sz:=2) rfl (fj _) h;obtain⟨_,_,d,⟨b,rfl,_⟩,_⟩:=c21 (h:=H) l[p] g_;have d:=d;have q:=aP p o_;have k:cB l[p]=.agg [.I l[p].c,.ls (l[p].V.map cQ)]:=rfl;rw[k]at e c d;cases b with
  |true=>
   simp only[go_sem,t0,f,e,c,d,q];refine⟨j-1,o_,_,p+1,o_,rfl,q_ t0,k_,g_,λx hx=>?_⟩;rw[iN a]at hx;grind
  |false=>
   simp only[go_sem,t0,f,e,c,d];exact cG g_ (v:=.bool false) k_ (bp _ _) g_
 obtain rfl:p=l.length:=o_;rw[K_]at g;simp only[go_sem];exact cG g_ (v:=.bool true) k_ (bp _ _) g_
end
def cp:List LV->List LV->List LV
 |[],a=>a
 |x::xs,[]=>x::xs
 |x::xs,y::a=>if x.X<y.X then x::cp xs (y::a) else if y.X<x.X then y::cp (x::xs) a else ⟨x.X,max x.P y.P⟩::cp xs a
termination_by xs ys=>xs.length+ys.length
def dW (a:List LV):Int:=a.foldl (λm x=>max m x.P) 0
def gi (a b:LL):LL:=⟨if 0<(cp a.V b.V).length/\max a.c b.c<=dW (cp a.V b.V) then 0 else max a.c b.c,cp a.V b.V⟩
def IL (a:List LV)(x:LV):dW (a++[x])=max (dW a) x.P:=by unfold dW;rw[List.foldl_append];rfl
theorem yN (a:List LV):cp a []=a:=by cases a<;>simp[cp]
def pcR (l:LL)(n:Int):Int:=if 0<l.c\/l.V.length=0 then l.c+n else 0
def upV (a:List LV)(n:Int):List LV:=a.map λx=>⟨x.X,x.P+n⟩
def gT (l:LL)(n:Int):LL×Int:=cond (decide (100<pcR l n)||l.V.any λx=>decide (100<x.P+n)) (⟨0,[]⟩,15) (⟨pcR l n,upV l.V n⟩,0)
def ji (vals:List LL)(s:Option LL)(x:LV):Option LL:=match s with
 |none=>none
 |some out=>if 0<=x.X/\x.X<(vals.length:Int) then
   match vals[x.X.toNat]? with
   |some y=>if (gT y x.P).2=0 then some (gi out (gT y x.P).1) else none
   |none=>some out
  else some (gi out ⟨0,[x]⟩)
def agE (l:LL)(vals:List LL):Option LL:=l.V.foldl (ji vals) (some ⟨l.c,[]⟩)
theorem GM (vals:List LL)(a:List LV):a.foldl (ji vals) none=none:=by
 induction a with
 |nil=>rfl
 |cons x a b=>exact b
def Srt (a:List LV):Prop:=a.Pairwise λx y=>x.X<y.X
def pOf:List LV->Int->Option Int
 |[],_=>none
 |x::vs,i=>if i=x.X then some x.P else pOf vs i
def mxo:Option Int->Option Int->Option Int
 |none,b=>b
 |some a,none=>some a
 |some a,some b=>some (max a b)
def VL.srt {l:LL}(h:VL l):Srt l.V:=by
 unfold Srt;rw[List.pairwise_iff_getElem];intro i j hi b a;have:=h.idx_le (j-i) i _ _ (a_ hi) (by rw[show i+(j-i)=j by omega];exact a_ b);omega
def Srt.tail {x:LV}{a:List LV}(h:Srt (x::a)):Srt a:=(List.pairwise_cons.1 h).2
def Srt.head {x:LV}{a:List LV}(h:Srt (x::a)):∀y∈a,x.X<y.X:=(List.pairwise_cons.1 h).1
def rP {vs:List LV}{i:Int}(h:∀y∈vs,i≠y.X):pOf vs i=none:=by
 induction vs with
 |nil=>rfl
 |cons x vs a=>grind [pOf]
def Ef {a:List LV}{i p:Int}(h:pOf a i=some p):∃y∈a,y.X=i/\y.P=p:=by
 induction a with
 |nil=>cases h
 |cons x a b=>
  grind [pOf]
def adu {a:List LV}(hs:Srt a){y:LV}(c:y∈a):pOf a y.X=some y.P:=by
 induction a with
 |nil=>grind
 |cons x a b=>
  rw[pOf];rcases X_.1 c with rfl|h
  ·grind
  have:=hs.head y h;rw[N_ o_];exact b hs.tail h
def Srt.ext:∀{d c:List LV},Srt d->Srt c->(∀i,pOf d i=pOf c i)->d=c
 |[],[],_,_,_=>rfl
 |[],y::c,_,_,h=>by have:=h y.X;grind [pOf]
 |x::d,[],_,_,h=>by have:=h x.X;grind [pOf]
 |x::d,y::c,hx,g,h=>by
  have e:x.X=y.X:=by
   have a:=h x.X;have f:=h y.X;rw[pOf,P_ rfl]at a;rw[pOf,pOf,P_ rfl]at f;have⟨z,b,_,_⟩:=Ef a.symm;have n:y.X<=x.X:=by
    rcases X_.1 b with rfl|b
    ·omega
    have:=g.head z b;omega
   by_cases j:y.X=x.X
   ·exact j.symm
   rw[N_ j]at f;have⟨w,p,_,_⟩:=Ef f;have:=hx.head w p;omega
  have k:x.P=y.P:=by
   have a:=h x.X;rw[pOf,P_ rfl,pOf,P_ e]at a;simpa using a
  have m:d=c:=by
   refine Srt.ext hx.tail g.tail λi=>?_;have a:=h i;rw[pOf,pOf]at a;by_cases hi:i=x.X
   ·rw[rP λz b=>by have:=hx.head z b;omega,rP λz b=>by have:=g.head z b;omega]
   rw[N_ hi,N_ o_]at a;exact a
  have⟨_,_⟩:=x;simp only at e k;rw[e,k,m]
def mergeV_mem:∀{c b:List LV} {z:LV},z∈cp c b->(∃x∈c,x.X=z.X)\/∃y∈b,y.X=z.X
 |[],b,z,h=>by grind [cp]
 |x::c,[],z,h=>by grind [cp]
 |x::c,y::b,z,h=>by
  rw[cp]at h;split at h
  ·rcases X_.1 h with rfl|h
   ·grind
   rcases mergeV_mem h with⟨w,a,e⟩|⟨w,a,e⟩
   all_goals grind
  split at h
  ·rcases X_.1 h with rfl|h
   ·grind
   rcases mergeV_mem h with⟨w,a,e⟩|⟨w,a,e⟩
   all_goals grind
  rcases X_.1 h with rfl|h
  ·grind
  rcases mergeV_mem h with⟨w,a,e⟩|⟨w,a,e⟩
  all_goals grind
termination_by xs ys=>xs.length+ys.length
def mG:∀{f d:List LV},Srt f->Srt d->Srt (cp f d)
 |[],d,_,b=>by grind [cp]
 |x::f,[],hx,_=>by grind [cp]
 |x::f,y::d,hx,b=>by
  rw[cp];split
  ·refine List.pairwise_cons.2 ⟨λz c=>?_,mG hx.tail b⟩;rcases mergeV_mem c with⟨w,a,e⟩|⟨w,a,e⟩
   ·have:=hx.head w a;omega
   rcases X_.1 a with rfl|a
   ·omega
   have:=b.head w a;omega
  split
  ·refine List.pairwise_cons.2 ⟨λz c=>?_,mG hx b.tail⟩;rcases mergeV_mem c with⟨w,a,e⟩|⟨w,a,e⟩
   ·rcases X_.1 a with rfl|a
    ·omega
    have:=hx.head w a;omega
   have:=b.head w a;omega
  refine List.pairwise_cons.2 ⟨λz c=>?_,mG hx.tail b.tail⟩;show x.X<z.X;rcases mergeV_mem c with⟨w,a,e⟩|⟨w,a,e⟩
  ·have:=hx.head w a;omega
  have:=b.head w a;omega
termination_by xs ys=>xs.length+ys.length
theorem vd (a:Option Int):mxo a none=a:=by cases a<;>rfl
def oT:∀{a b:List LV},Srt a->Srt b->∀i,pOf (cp a b) i=mxo (pOf a i) (pOf b i)
 |[],b,_,_,i=>by rw[cp];rfl
 |x::a,[],_,_,i=>by rw[cp,pOf.eq_1,vd]
 |x::a,y::b,hx,e,i=>by
  rw[cp];split
  ·rename_i d;rw[pOf,oT hx.tail e,pOf.eq_2 i x a];by_cases hi:i=x.X
   ·rw[P_ hi,P_ hi,rP λz c=>(by
     rcases X_.1 c with rfl|c
     ·omega
     have:=e.head z c;omega)]
    rfl
   grind
  split
  ·rename_i d f;rw[pOf,oT hx e.tail,pOf.eq_2 i y b];by_cases hi:i=y.X
   ·rw[P_ hi,P_ hi,rP (vs:=x::a) λz c=>(by
     rcases X_.1 c with rfl|c
     ·omega
     have:=hx.head z c;omega)]
    rfl
   grind
  rename_i d f;rw[pOf,oT hx.tail e.tail,pOf.eq_2 i x a,pOf.eq_2 i y b];by_cases hi:i=x.X
  ·rw[P_ hi,P_ hi,P_ o_];rfl
  grind
termination_by xs ys=>xs.length+ys.length
def WG (a:List LV):∀m:Int,a.foldl (λm x=>max m x.P) m=max m (a.foldl (λm x=>max m x.P) m)/\(∀x∈a,x.P<=a.foldl (λm x=>max m x.P) m)/\m<=a.foldl (λm x=>max m x.P) m/\(a.foldl (λm x=>max m x.P) m=m\/∃x∈a,x.P=a.foldl (λm x=>max m x.P) m):=by
 induction a with
 |nil=>intro m;simp
 |cons x a b=>
  grind
def tC {vs:List LV}{x:LV}(h:x∈vs):x.P<=dW vs:=(WG vs 0).2.1 x h
theorem Bw (a:List LV):0<=dW a:=(WG a 0).2.2.1
theorem most_cases (a:List LV):dW a=0\/∃x∈a,x.P=dW a:=(WG a 0).2.2.2
def Ek {a:List LV}{b:Int}(c:0<=b)(h:∀x∈a,x.P<=b):dW a<=b:=by
 grind [most_cases]
def sF {P:LV->Prop}(e:∀x y,x.X=y.X->P x->P y->P ⟨x.X,max x.P y.P⟩):∀{b a:List LV},(∀x∈b,P x)->(∀y∈a,P y)->∀z∈cp b a,P z
 |[],a,_,f,z,h=>by grind [cp]
 |x::b,[],hx,_,z,h=>by grind [cp]
 |x::b,y::a,hx,f,z,h=>by
  have d:∀w∈b,P w:=g_;have c:∀w∈a,P w:=g_;rw[cp]at h;split at h
  ·rcases X_.1 h with rfl|h
   ·grind
   exact sF e d f z h
  split at h
  ·rcases X_.1 h with rfl|h
   ·grind
   exact sF e hx c z h
  rcases X_.1 h with rfl|h
  ·grind
  exact sF e d c z h
termination_by xs ys=>xs.length+ys.length
theorem tR:∀xs ys:List LV,dW (cp xs ys)=max (dW xs) (dW ys):=by
 have cons:∀(x:LV) (vs:List LV),dW (x::vs)=max x.P (dW vs):=by
  intro x vs;have h1:dW (x::vs)<=max x.P (dW vs):=Ek (by have:=Bw vs;omega) λy hy=>by
   rcases X_.1 hy with rfl|hy
   ·omega
   have:=tC hy;omega
  have h2:=tC (vs:=x::vs) (x:=x) (by simp);have h3:dW vs<=dW (x::vs):=Ek (Bw _) λy hy=>tC (by grind);omega
 have n0:dW []=0:=rfl;have key:∀(n:Nat) (xs ys:List LV),xs.length+ys.length<=n->dW (cp xs ys)=max (dW xs) (dW ys):=by
  intro n;induction n with
  |zero=>
   grind [List.length_eq_zero_iff,cp]
  |succ n ih=>
   intro xs ys h
   match xs,ys with
   |[],ys=>rw[cp,n0];have:=Bw ys;omega
   |x::xs,[]=>rw[cp,n0];have:=Bw (x::xs);omega
   |x::xs,y::ys=>
    grind [M_,cp,max]
 exactλxs ys=>key _ xs ys (e_ _)
def btV (l:LL):Int:=max l.c (dW l.V)
def VL.all {l:LL}(h:VL l):∀x∈l.V,Rng x:=λx hx=>by
 have⟨i,hi⟩:=List.mem_iff_getElem?.1 hx;exact h.rng i x hi
def VL.covm {l:LL}(h:VL l)(a:0<l.c):∀x∈l.V,x.P<l.c:=λx hx=>by
 have⟨i,hi⟩:=List.mem_iff_getElem?.1 hx;exact h.cov a i x hi
def VL.mk' {l:LL}(c0:0<=l.c)(a:l.c<=100)(c:∀x∈l.V,Rng x)(hs:Srt l.V)(b:0<l.c->∀x∈l.V,x.P<l.c):VL l:=by
 refine⟨c0,a,g_,λi x y ex d=>?_,g_⟩;grind [Srt,List.pairwise_iff_getElem,E_]
def Aq {a b:LL}(d:VL a)(c:VL b):VL (gi a b):=by
 have f:=sF (P:=Rng) (λx y e hx l=>by have⟨i,j,_,_⟩:=hx;have⟨k,_,_,_⟩:=l;exact⟨i,j,by show 0<=max x.P y.P;omega,by show max x.P y.P<=100;omega⟩) d.all c.all;have i:=d.c1;have o:=c.c0;have k:=c.c1;unfold gi;by_cases g:0<(cp a.V b.V).length/\max a.c b.c<=dW (cp a.V b.V)
 ·rw[P_ g];exact VL.mk' (Int.le_refl 0) (by show(0:Int)<=100;omega) f (mG d.srt c.srt) g_
 rw[N_ g];refine VL.mk' (by show 0<=max a.c b.c;omega) (by show max a.c b.c<=100;omega) f (mG d.srt c.srt) (λh x hx=>?_);show x.P<max a.c b.c;have:x.P<=dW (cp a.V b.V):=tC hx;have q:0<(cp a.V b.V).length:=g_;omega
theorem Hs (a b:LL)(c:0<=a.c)(d:0<=b.c):btV (gi a b)=max (btV a) (btV b):=by
 grind [tR,Bw,cp,btV,gi,max,dW]
def KY {a:List LV}(n:Int)(h:Srt a):Srt (upV a n):=by
 unfold Srt upV;rw[List.pairwise_map];exact h
def GP {l:LL}{n:Int}(h:VL l)(m:0<=n)(g:(gT l n).2=0):VL (gT l n).1/\gT l n=(⟨pcR l n,upV l.V n⟩,0)/\pcR l n<=100/\∀x∈l.V,x.P+n<=100:=by
 unfold gT at g ⊢;cases e:(decide (100<pcR l n)||l.V.any λx=>decide (100<x.P+n)) with
 |true=>grind
 |false=>
  simp only[Bool.or_eq_false_iff,decide_eq_false_iff_not,List.any_eq_false,decide_eq_true_eq]at e;have⟨_,f⟩:=e;have c0:=h.c0;refine⟨VL.mk' ?_ ?_ ?_ (KY n h.srt) ?_,rfl,o_,g_⟩
  ·grind [pcR]
  ·show pcR l n<=100;omega
  ·intro x hx;obtain⟨y,a,rfl⟩:=List.mem_map.1 hx;have⟨i,j,_,_⟩:=h.all y a;have:=f y a;exact⟨i,j,by show 0<=y.P+n;omega,by show y.P+n<=100;omega⟩
  intro b x hx;obtain⟨y,a,rfl⟩:=List.mem_map.1 hx;show y.P+n<pcR l n;have b:0<pcR l n:=b;unfold pcR at b ⊢;split at b
  ·rename_i c;rcases c with d|d
   ·have:=h.covm d y a;omega
   grind
  omega
theorem Yz (L:Es)(k v i:Int):lkg (stg L k v) i=if i=k then some v else lkg L i:=by
 induction L with
 |nil=>rfl
 |cons e L a=>
  grind [stg,lkg]
theorem sK (L:Es)(k p i:Int):lkg (jk L k p) i=if i=k then mxo (lkg L k) (some p) else lkg L i:=by
 grind [jk,lkg,Yz,mxo]
def zG (n:Int):∀{a:List LV} (L:Es) (i:Int),Srt a->lkg (DC L a n) i=mxo (lkg L i) (pOf (upV a n) i)
 |[],L,i,_=>by show lkg L i=mxo (lkg L i) none;rw[vd]
 |x::a,L,i,h=>by
  show lkg (DC (jk L x.X (x.P+n)) a n) i=mxo (lkg L i) (pOf (⟨x.X,x.P+n⟩::upV a n) i);rw[zG n _ i h.tail,sK,pOf];by_cases hi:i=x.X
  ·rw[P_ hi,P_ hi,rP λy b=>by
    obtain⟨z,c,rfl⟩:=List.mem_map.1 b;have:=h.head z c;show i≠z.X;omega]
   grind [vd]
  grind
structure RS (c:Int)(L:Es)(out:LL):Prop where
 lk:∀i,lkg L i=pOf out.V i
 bt:max c (dW out.V)=btV out
 c0:0<=c
 vl:VL out
def Yx {l:LL}{n:Int}(d:0<=n)(h:VL l):max (l.c+n) (dW (upV l.V n))=max (pcR l n) (dW (upV l.V n)):=by
 have c0:=h.c0;unfold pcR;by_cases b:0<l.c\/l.V.length=0
 ·omega
 cases a:l.V with
 |nil=>grind
 |cons x c=>
  have hx:=h.all x (by rw[a];simp);have⟨_,_,_,_⟩:=hx;have:x.P+n<=dW (upV (x::c) n):=tC (x:=⟨x.X,x.P+n⟩) (by simp[upV]);omega
def UD {x:LV}(h:Rng x):VL ⟨0,[x]⟩:=
 VL.mk' (Int.le_refl 0) (by show(0:Int)<=100;omega) g_ (by unfold Srt;simp) g_
def Rg (s:Int×Es):Prop:=100<s.1\/∃i o,lkg s.2 i=some o/\100<o
def UF {a b:Option Int}{o:Int}(h:a=some o)(ho:100<o):∃o',mxo a b=some o'/\100<o':=by
 subst h;cases b with
 |none=>exact⟨o,rfl,ho⟩
 |some p=>exact⟨max o p,rfl,o_⟩
def Yw {a b:Option Int}{o:Int}(h:b=some o)(ho:100<o):∃o',mxo a b=some o'/\100<o':=by
 subst h;cases a with
 |none=>exact⟨o,rfl,ho⟩
 |some p=>exact⟨max p o,rfl,o_⟩
def PQ {vals:List LL}(d:∀y∈vals,VL y){s:Int×Es}(x:LV)(h:Rg s):Rg (iY vals s x):=by
 unfold iY;split
 ·rcases h with h|⟨i,o,b,a⟩
  ·exact .inl h
  right;by_cases hi:i=x.X
  ·have⟨o',e,ho⟩:=UF (b:=some x.P) b a;exact⟨x.X,o',by grind [sK],ho⟩
  exact⟨i,o,by grind [sK],a⟩
 split
 ·rename_i y c;rcases h with h|⟨i,o,b,a⟩
  ·exact .inl (by show 100<max s.1 _;omega)
  have⟨o',_,ho⟩:=UF (b:=pOf (upV y.V x.P) i) b a;exact .inr ⟨i,o',by rw[zG _ _ _ (d y (m_ c)).srt];omega,ho⟩
 omega
theorem Ig {vals:List LL}(b:∀y∈vals,VL y):∀(a:List LV) {s:Int×Es},Rg s->Rg (a.foldl (iY vals) s)
 |[],_s,h=>h
 |x::a,_s,h=>Ig b a (PQ b x h)
def RS_step {vals:List LL}(s:∀y∈vals,VL y){c:Int}{L:Es}{out:LL}(x:LV)(hx:Rng x)(v:x.X<(vals.length:Int))(r:RS c L out):
  (∃b,ji vals (some out) x=some b/\RS (iY vals (c,L) x).1 (iY vals (c,L) x).2 b)\/(ji vals (some out) x=none/\Rg (iY vals (c,L) x)):=by
 have⟨lk,bt,c0,d⟩:=r;have⟨p,A,l,w⟩:=hx;have D:=d.c0;by_cases hm:0<=x.X/\x.X<(vals.length:Int)
 ·have⟨y,B⟩:∃y,vals[x.X.toNat]?=some y:=⟨_,a_ o_⟩;have f:=s y (m_ B);have h:iY vals (c,L) x=(max c (y.c+x.P),DC L y.V x.P):=by grind [iY]
  have j:ji vals (some out) x=if (gT y x.P).2=0 then some (gi out (gT y x.P).1) else none:=by
   grind [ji]
  rw[h,j];by_cases g:(gT y x.P).2=0
  ·left;have⟨k,m,_,_⟩:=GP f l g;rw[P_ g];refine⟨_,rfl,⟨λi=>?_,?_,by show 0<=max c _;omega,Aq d k⟩⟩
   ·rw[zG _ _ _ f.srt,lk];show _=pOf (cp out.V (gT y x.P).1.V) i;rw[oT d.srt k.srt,m]
   have u:=Hs out (gT y x.P).1 D k.c0;have G:=Yx l f;have t:dW (gi out (gT y x.P).1).V=max (dW out.V) (dW (upV y.V x.P)):=by
    show dW (cp out.V (gT y x.P).1.V)=_;grind [tR]
   have C:btV (gT y x.P).1=max (pcR y x.P) (dW (upV y.V x.P)):=by rw[m];rfl
   rw[u,t,C,<-bt];show max (max c (y.c+x.P)) _=_;omega
  right;rw[N_ g];refine⟨rfl,?_⟩;unfold gT at g;cases a:(decide (100<pcR y x.P)||y.V.any λz=>decide (100<z.P+x.P)) with
  |false=>grind
  |true=>
   rw[Bool.or_eq_true]at a;rcases a with a|a
   ·have a:=O_ a;left;grind [max,pcR]
   right;have⟨z,q,a⟩:=List.any_eq_true.1 a;have a:=O_ a;have o:pOf (upV y.V x.P) z.X=some (z.P+x.P):=adu (KY x.P f.srt) (y:=⟨z.X,z.P+x.P⟩) (List.mem_map.2 ⟨z,q,rfl⟩);have⟨o',_,ho⟩:=Yw (a:=lkg L z.X) o a;exact⟨z.X,o',by rw[zG _ _ _ f.srt];omega,ho⟩
 left;have h:iY vals (c,L) x=(c,jk L x.X x.P):=by grind [iY]
 have j:ji vals (some out) x=some (gi out ⟨0,[x]⟩):=by
  grind [ji]
 rw[h,j];have n:=UD ⟨p,A,l,w⟩;refine⟨_,rfl,⟨λi=>?_,?_,c0,Aq d n⟩⟩
 ·show lkg (jk L x.X x.P) i=pOf (cp out.V [x]) i;rw[sK,oT d.srt n.srt,pOf,pOf,<-lk];grind [vd]
 grind [Hs,dW,gi,max,tR,btV]
theorem MP {vals:List LL}(f:∀y∈vals,VL y):∀(d:List LV) {c:Int} {L:Es} {out:LL},(∀x∈d,Rng x/\x.X<(vals.length:Int))->RS c L out->
  (∃a,d.foldl (ji vals) (some out)=some a/\RS (d.foldl (iY vals) (c,L)).1 (d.foldl (iY vals) (c,L)).2 a)\/(d.foldl (ji vals) (some out)=none/\Rg (d.foldl (iY vals) (c,L)))
 |[],c,L,out,_,r=>g_
 |x::d,c,L,out,hx,r=>by
  rw[List.foldl_cons,List.foldl_cons];rcases RS_step f x g_ g_ r with⟨a,e,g⟩|⟨e,b⟩
  ·rw[e];exact MP f d g_ g
  grind [GM,Ig]
def SR {L:Es}{i:Int}(h:i ∉ L.map (·.1)):lkg L i=none:=by
 induction L with
 |nil=>rfl
 |cons e L a=>
  grind [lkg]
def Yy {L:Es}(a:(L.map (·.1)).Nodup):Srt (lvs L (fA L)):=by
 grind [Srt,lvs,ML]
def MH (L:Es)(i:Int):∀l:List Int,(∀z∈l,∃o,lkg L z=some o)->pOf (lvs L l) i=if i∈l then lkg L i else none
 |[],_=>by simp[lvs,pOf]
 |z::l,h=>by
  have a:=MH L i l g_;grind [pOf,lkg,lvs]
theorem MI {L:Es}(i:Int):pOf (lvs L (fA L)) i=lkg L i:=by
 rw[MH L i (fA L) λz b=>ve ((List.mergeSort_perm _ _).mem_iff.1 b)];split
 ·rfl
 rename_i h;rw[SR λa=>h ((List.mergeSort_perm _ _).mem_iff.2 a)]
theorem YA {c:Int}{L:Es}{out:LL}(j:(L.map (·.1)).Nodup)(r:RS c L out):Qj (c,L)=some out:=by
 have⟨_,bt,_,a⟩:=r;have e:lvs L (fA L)=out.V:=Srt.ext (Yy j) a.srt λi=>by grind [MI]
 unfold Qj Im;simp only[e];have s:=a.c0;have q:=a.c1;have p:dW out.V<=100:=Ek o_ λx hx=>(a.all x hx).2.2.2;unfold btV at bt;have k:Qo ⟨c,out.V⟩=false:=by
  unfold Qo;rw[List.any_eq_false];intro x hx;have:=(a.all x hx).2.2.2;simp;omega
 rw[k,N_ (by decide),N_ o_];have⟨d,b⟩:=out;simp only at *;congr 2;cases g:Gf ⟨c,b⟩ with
 |true=>
  rw[P_ rfl];have⟨x,hx,f⟩:=List.any_eq_true.1 g;have f:c<=x.P:=g_;have:x.P<=dW b:=tC hx;by_cases m:0<d
  ·have o:dW b<d:=by
    rcases most_cases b with h|⟨y,l,h⟩
    ·omega
    have:=a.covm m y l;have:y.P<d:=o_;omega
   omega
  omega
 |false=>
  have n:∀x∈b,x.P<c:=by
   intro x hx;have:=List.any_eq_false.1 g x hx;grind
  grind [most_cases]
theorem SS {s:Int×Es}(h:Rg s):Qj s=none:=by
 unfold Qj Im;rcases h with h|⟨i,o,a,d⟩
 ·grind
 rw[<-MI]at a;have⟨y,b,_,_⟩:=Ef a;have c:Qo ⟨s.1,lvs s.2 (fA s.2)⟩=true:=List.any_eq_true.2 ⟨y,b,t_⟩;rw[c];rfl
def Xs {l:LL}{a:List LL}(b:VL l)(c:∀y∈a,VL y)(f:gX l<=(a.length:Int)):jM l a=agE l a:=by
 have d:RS l.c [] ⟨l.c,[]⟩:=⟨λi=>rfl,rfl,b.c0,VL.mk' b.c0 b.c1 (by simp) (by unfold Srt;simp) (by simp)⟩;unfold jM agE;have g:∀x∈l.V,Rng x/\x.X<(a.length:Int):=λx hx=>by
  have⟨_,hi⟩:=List.mem_iff_getElem?.1 hx;exact⟨b.all x hx,by have:=b.param hi;omega⟩
 have e:=(GE.fold c l.V (s:=(l.c,[])) GE.nil g_).nd;grind [MP,YA,SS]
mutual
def jC:∀t,TOK t->IB t
 |.mk k i nm ls a,h=>by
  rw[TOK]at h;refine⟨λq=>⟨h.1.i0,h.1.i1,?_⟩,La a g_⟩;have:=h.1.K;have e:cN 0=0:=by decide
  simp_all
def La:∀l,gO l->IBs l
 |[],_=>trivial
 |t::l,h=>by rw[gO]at h;exact⟨jC t g_,La l g_⟩
end
mutual
def Bo:∀t,TOK t->BT t
 |.mk k i nm ls c,h=>by
  rw[TOK]at h;have n:=h.1;refine .mk _ (by have:=n.short;show nm.size<_;omega) ?_ (λl d=>by have:=(n.val l d).len;omega) (by have:=n.i0;show _<=i;omega) (by have:=n.i1;show i<_;omega) (Lb c g_);show ls.length<_;by_cases b:k=2
  ·have:=n.lev.1 b;omega
  by_cases a:k=3
  ·have:=n.lev.2.1 a;omega
  rw[n.lev.2.2 b a];decide
def Lb:∀l,gO l->∀x∈l,BT x
 |[],_,x,hx=>by grind
 |t::l,h,x,hx=>by
  rw[gO]at h;rcases X_.1 hx with q|hx
  ·rw[q];exact Bo t g_
  exact Lb l g_ x hx
end
mutual
theorem sf (a:Int):∀(t:T) (d:Int),TOK t->IB (cZ a t d)->TOK (cZ a t d)
 |.mk k i nm ls c,d,h,b=>by
  unfold cZ at b ⊢;by_cases hk:k=0
  ·rw[P_ hk]at b ⊢;by_cases hi:i<d
   ·grind
   rw[N_ hi]at b ⊢;exact vC (b.1 rfl).1 (b.1 rfl).2.1
  rw[N_ hk]at b ⊢;rw[TOK]at h ⊢;rw[qY];exact⟨g_,yr a k c 0 d g_ b.2⟩
theorem yr (a k:Int):∀(c:List T) (j:Nat) (d:Int),gO c->IBs (fB a k j c d)->gO (fB a k j c d)
 |[],_,_,_,_=>by trivial
 |t::l,j,d,h,b=>by
  rw[gO]at h;rw[fB]at b ⊢;exact⟨sf a t _ g_ b.1,yr a k l (j+1) d g_ b.2⟩
end
mutual
theorem sd (b:List T)(c:∀v∈b,TOK v):∀(t:T) (d:Int),TOK t->IB (fM b t d)->TOK (fM b t d)
 |.mk k i nm ls f,d,h,a=>by
  unfold fM at a ⊢;by_cases hk:k=0
  ·rw[P_ hk]at a ⊢;by_cases hi:d<=i
   ·rw[P_ hi]at a ⊢;cases e:b[(i-d).toNat]? with
    |none=>
     rw[e]at a;exact vC (a.1 rfl).1 (a.1 rfl).2.1
    |some x=>
     grind [sf,m_]
   grind
  rw[N_ hk]at a ⊢;rw[TOK]at h ⊢;rw[qV];exact⟨g_,yq b c k f 0 d g_ a.2⟩
theorem yq (a:List T)(e:∀v∈a,TOK v)(k:Int):∀(c:List T) (j:Nat) (d:Int),gO c->IBs (iO a k j c d)->gO (iO a k j c d)
 |[],_,_,_,_=>by trivial
 |t::l,j,d,h,b=>by
  rw[gO]at h;rw[iO]at b ⊢;exact⟨sd a e t _ g_ b.1,yq a e k l (j+1) d g_ b.2⟩
end
def rI:TOK zero:=vC (by decide) (by decide)
def oO:∀(n:Nat) (t:T),aO t<=n->TOK t->TOK (aT t).1/\(∀a∈(aT t).2,TOK a)/\bA (aT t).1 (aT t).2=t:=by
 intro n;induction n with
 |zero=>intro t h;have:=bI t;omega
 |succ n j=>
  intro t h b;have⟨k,_,_,_,c⟩:=t;by_cases hk:k=4/\c.length=2
  ·obtain⟨rfl,g⟩:=hk
   match c,g with
   |[f,a],_=>
    rw[iE];simp only[aO,ba]at h;have⟨nd,d,_,_⟩:=b;have⟨l,_,e⟩:=j f o_ d;refine⟨l,λx hx=>?_,?_⟩
    ·grind
    show bA (aT f).1 ((aT f).2++[a])=_;rw[lL,e,MK.app,nd.X (by decide) (by decide),nd.N (by decide),nd.lev.2.2 (by decide) (by decide)]
  rw[sg hk];exact⟨b,by simp,rfl⟩
section
variable {C:MK.Cx}
def Red (C:MK.Cx)(t a:T):Prop:=∀n u,wf C n a []=some u->∃m,wf C m t []=some u
theorem Red.refl (t:T):Red C t t:=λn _ q=>⟨n,q⟩
def Red.trans {a b c:T}(x:Red C a b)(y:Red C b c):Red C a c:=λ_ u q=>by have⟨m,q⟩:=y _ u q;exact x m u q
theorem aao {t u:T}{n:Nat}(w:wf C n (aT t).1 (aT t).2=some u):∃m,wf C m t []=some u:=
 zR _ t [] n u (e_ _) (by grind)
theorem Red.z {n:Nat}{t b:T}{a:List T}(s:MK.step C (Wn C n) (aT t).1 (aT t).2=some (.next b a)):Red C t (bA b a):=λm u w=>by
 grind [Ru,A_,KV,aao]
def Red.stuck {n:Nat}{t h':T}{bs_:List T}(s:MK.step C (Wn C n) (aT t).1 (aT t).2=some (.stuck h' bs_)):∃m,wf C m t []=some (bA h' bs_):=by
 grind [tc,aao]
end
