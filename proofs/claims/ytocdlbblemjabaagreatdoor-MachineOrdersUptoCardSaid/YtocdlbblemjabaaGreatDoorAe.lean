/- Lemmas for MachineOrders (no condition). -/
import Derived.Test.YtocdlbblemjabaaGreatDoorAa
import Derived.Laws.Strings
set_option linter.defProp false
namespace Go.AG
variable {z v:AV}{L:AX}{parts:Array (Nat×Operand)}{agg r:Bool}{g:Gh}{a as bs:List AV}{f d n b k l c i len m:Nat}{p:Nat×Nat×Bool}{o:Oper}{x y:Operand}{lo hi:Option Operand}{t e:TypeId}{u:Value}
section lists
variable {g:Gh}
theorem Bm (b:List AV):∀a:List AV,aZ b=true->aZ a=true->aZ (over b a)=true:=by
 induction b with
 |nil=>intro a _ h;exact h
 |cons v b d=>intro a f e;cases a with
  |nil=>rfl
  |cons c a=>
   grind [oU,dG]
theorem oh (b:Nat)(d:List AV)(e:aZ d=true):∀a:List AV,aZ a=true->aZ (setR b d a)=true:=by
 induction b with
 |zero=>intro a h;exact Bm d a e h
 |succ n f=>intro a h;cases a with
  |nil=>rfl
  |cons c a=>
   grind [jG,dG]
theorem CE (a:Nat):∀(l:List Value) (n:Nat) (b:Array Value),a+n+l.length<=b.size->
  ((l.zipIdx n).foldl (λb (p:Value×Nat)=>b.setIfInBounds (a+p.2) p.1) b).toList=setR (a+n) l b.toList
 |[],n,b,_=>by rw[BW];rfl
 |v::l,n,b,h=>by
  simp only[M_]at h;rw[List.zipIdx_cons,List.foldl_cons,CE a l (n+1) _ (by simp;omega)];have:=BV (a+n) v l b.toList (by simp;omega);rw[<-this,Nat.add_assoc];congr 1;simp
def IU (a:Nat)(d:Array Value)(b:Array Value)(h:a+d.size<=b.size):
  (d.zipIdx.foldl (λb (c,j)=>b.setIfInBounds (a+j) c) b).toList=setR a d.toList b.toList:=by
 rw[<-Array.foldl_toList,Array.toList_zipIdx];exact CE a d.toList 0 b o_
inductive FW (g:Gh)(place:Nat->Option (Nat×Nat)):List (Nat×Nat×AV)->List (Nat×Value)->Prop
 |nil:FW g place [] []
 |cons {off n i:Nat} {a:AV} {u:Value} {l:List (Nat×Nat×AV)} {r:List (Nat×Value)} (hp:place i=some (off,n)) (h:bR g a u) (t:FW g place l r) :
   FW g place ((off,n,a)::l) ((i,u)::r)
theorem Aw {f:Nat->Option (Nat×Nat)}: ∀{l:List (Nat×Nat×AV)} {r:List (Nat×Value)},FW g f l r->∀{k d:List AV} {us:Array Value},
  AO l k=some d->bD g k us.toList->aZ k=true->∃o,Instr.fill f us r=some o/\bD g d o.toList/\aZ d=true/\d.length=k.length
 |_,_,.nil,k,d,us,e,v,y=>by cases e;exact⟨us,rfl,v,y,rfl⟩
 |_,_,.cons (off:=off) (n:=n) (i:=i) (a:=a) (u:=u) (l:=l) (r:=r) hp h t,k,d,us,e,v,y=>by
  have⟨z,e⟩:=bj e;have⟨q,z⟩:=fq z;have⟨p,w⟩:=fq z;have q:=dB q;have p:=mM p;rw[bT]at q p;simp only at q p w e;have p:off+n<=k.length:=p;have b:=h.cells w;have s:=b.length;have m:=v.length;have A:u.cells.size=n:=by rw[<-q,s];simp
  have x:off+u.cells.size<=us.size:=by simp at m;omega
  have B:=IU off u.cells us x;have⟨_,_,_,_,_⟩:=Aw t (us:=u.cells.zipIdx.foldl (λk (c,j)=>k.setIfInBounds (off+j) c) us) e (by rw[B];exact b.setR off v)
   (oh off _ (h.fine w) k y)
  grind [lJ,Instr.fill]
theorem oS (n:Nat)(z:List AV):Bc (n+1) z=z++Bc n z:=by show app z (Bc n z)=_;rw[lY]
def om (z:List AV)(h:aZ z=true):∀n,aZ (Bc n z)=true
 |0=>rfl
 |n+1=>by rw[oS,jr,h,om z h n];rfl
theorem nW (z:List AV):∀n,(Bc n z).length=n*z.length
 |0=>by rw[Nat.zero_mul];rfl
 |n+1=>by rw[oS,H_,nW z n,Nat.succ_mul,Nat.add_comm]
theorem yp (a:Array Value)(m:Nat)(hm:a.size=m):∀n,bD g (List.replicate 0 AV.any) []->∀{z:List AV},bD g z a.toList->
  bD g (Bc n z) ((List.range (n*m)).map λi=>a[i % a.size]!)
 |0,_,z,_=>by rw[Nat.zero_mul];exact .nil
 |n+1,q,z,h=>by
  rw[oS,Nat.succ_mul,Nat.add_comm (n*m) m,List.range_add,List.map_append];refine bD.append ?_ ?_
  ·have e:(List.range m).map (λi=>a[i % a.size]!)=a.toList:=by
    apply List.ext_getElem?;grind [List.getElem?_range,Nat.mod_eq_of_lt,S_]
   grind
  rw[List.map_map];have e:((λi=>a[i % a.size]!)∘λx=>m+x)=λi=>a[i % a.size]!:=by
   grind [Nat.add_mod_left]
  rw[e];exact yp a m hm n q h
def BH {z:List AV}{a:Array Value}(h:bD g z a.toList)(n:Nat):
  bD g (Bc n z) ((Array.range (n*a.size)).map λi=>a[i % a.size]!).toList:=by
 rw[Array.toList_map,Array.toList_range];exact yp a a.size rfl n .nil h
end lists
section
variable {C:Cx}{g:Gh}{U:Nat->Option (List AV)}{h h':AH}{w:World}{tm:Tm}{tmps:Array Value}{v:AV}
theorem Mn (h:ig g tm tmps){d:Array Field}{pl:Array (Nat×Nat)}(c:∀(i:Nat) (f:Field) (n:Nat),d.toList[i]?=some f->szT C.T f.type=some n->pl[i]?=some (f.offset,n)):
  ∀{l:List (Nat×Operand)} {r:List (Nat×Nat×AX)},ma (Vo C.T d.toList) l=some r->FW g (pl[·]?) (kv r tm) (l.map λ(i,x)=>(i,bE tmps x))
 |[],r,e=>by cases e;exact .nil
 |(i,x)::l,r,e=>by
  obtain⟨_,_,a,j,rfl⟩:=cA e;have⟨_,_,a⟩:=aC a;have⟨_,_,a⟩:=aC a;have⟨_,hx,a⟩:=aC a;cases a;exact .cons g_ (cT h hx) (Mn h c j)
theorem Mo (c:ig g tm tmps):
  ∀{l:List (Nat×Operand)} {r:List (Nat×AX)},ma Ia l=some r->FW g (λi=>some (i*n,n)) (fJ r tm n) (l.map λ(i,x)=>(i,bE tmps x))
 |[],r,e=>by cases e;exact .nil
 |(i,x)::l,r,e=>by
  obtain⟨_,_,a,d,rfl⟩:=cA e;have⟨_,hx,a⟩:=aC a;cases a;exact .cons rfl (cT c hx) (Mo c d)
theorem wU (w:World):∀(a:List Field) (ns:List Nat),ma (λf=>szT C.T f.type) a=some ns->
  ∃b:List (Nat×Nat),(a.mapM λf=>Functor.map (Prod.mk f.offset) (sizeOf f.type)).run C.P w=.ok b w/\
   ∀(i:Nat) (f:Field) (n:Nat),a[i]?=some f->szT C.T f.type=some n->b[i]?=some (f.offset,n)
 |[],ns,_=>⟨[],by simp,g_⟩
 |f::a,ns,e=>by
  obtain⟨n,c,j,d,rfl⟩:=cA e;have⟨b,g,_⟩:=wU w a c d;refine⟨(f.offset,n)::b,?_,λi l k m h=>?_⟩
  ·simp[List.mapM_cons,dZ j,g]
  grind
theorem ux {a:TypeId}(e:mP C.T t=some a):und C.T t=some (.slice a):=by
 have⟨d,b,e⟩:=aC e;cases d<;>cases e;exact b
theorem Bf {a:Array Field}(e:zY C.T t=some a):und C.T t=some (.struct a):=by
 have⟨d,b,e⟩:=aC e;cases d<;>cases e;exact b
theorem SG (s:Sim C g U h w)(G:ig g tm tmps){b:AOp}(ho:o.op=.build t parts)(a:Vq C.T t parts=some b)
  (e:da b tm h=.val v h'):mi C g U h ((execOp (bE tmps) o).run C.P w) v h':=by
 have⟨z,E,a⟩:=aC a;have⟨H,m,a⟩:=aC a;have u:=Bf m;have⟨i,_,hi,j,I,_,n,_⟩:=lO g E;have F:z.lies=true:=by cases z<;>first|rfl|grind [AV.cells,dG,AV.isCell]
 have l:=I.cells F;have⟨ns,f,a⟩:=aC a;have⟨A,k,a⟩:=aC a;cases a;obtain⟨q,rfl⟩:=fa (show okV (lT z.cells (kv A tm)) h=_ from e);have⟨_,B,q⟩:=aC q;cases q;have⟨D,c,_⟩:=wU (C:=C) w H.toList ns f;have⟨d,K,J,y,_⟩:=Aw (Mn (pl:=⟨D⟩) G (by grind) k) B l n;refine bV (u:=.agg d) s ?_ ?_
 ·have hm:parts.toList.map (λ(i,x)=>(i,bE tmps x))=(parts.map λ(i,x)=>(i,bE tmps x)).toList:=by simp
  simp[execOp,ho,Instr.build,fw hi j,bZ u,Array.mapM_eq_mapM_toList,c];simp at K;simp_all
 exact .agg y J
end
theorem Sim.live {C:Cx}{U:Nat->Option (List AV)}{h:AH}{w:World}(s:Sim C g U h w){l:Loc}(e:g.ρ k n=some l):U k=none:=by
 cases a:U k with
 |none=>rfl
 |some z=>rw[(s.unb k z a).2]at e;grind
theorem pj (h:v.isAgg=false):v.cells=[v]:=by cases v<;>first|rfl|grind [AV.isAgg]
theorem HH {e a:Nat}{d:List AV}(h:xG agg e a d=some v)(k:aZ d=true):
  v.cells=(d.drop a).take e/\v.cells.length=e/\a+e<=d.length/\v.isAgg=agg/\aZ v.cells=true/\(agg=false->e=1):=by
 cases agg with
 |true=>
  have⟨c,g⟩:=bj h;have c:=mM c;rw[bT]at c;have c:a+e<=d.length:=c;cases g;rw[lu,iC];have i:aZ ((d.drop a).take e)=true:=by
   grind [dU,List.mem_of_mem_drop,List.mem_of_mem_take]
  exact⟨rfl,by simp[AV.cells];omega,c,rfl,i,g_⟩
 |false=>
  have⟨c,g⟩:=bj h;have c:=dB c;subst c;rw[jQ]at g;have f:a<d.length:=by
   grind
  have l:(d.drop a).take 1=[v]:=by
   rw[a_ f]at g;cases g;rw[List.drop_eq_getElem_cons f];rfl
  have i:v.isCell=true:=(dU d).1 k v g_;have j:v.isAgg=false:=by cases v<;>first|rfl|grind [AV.isCell]
  have b:=pj o_;exact⟨by grind,by rw[b];rfl,o_,o_,by rw[b,dG,i];rfl,o_⟩
theorem yX (agg:Bool)(a n:Nat)(b:List AV):uo agg a (n+1) b=aI (xG agg a 0 b) λv=>aI (uo agg a n (drp a b)) λr=>some (v::r):=rfl
structure Chunk (agg:Bool)(sz n:Nat)(cs es:List AV):Prop where
 flat:bJ es=cs.take (n*sz)
 len:es.length=n
 size:∀e∈es,e.cells.length=sz
 le:n*sz<=cs.length
 fine:∀e∈es,aZ e.cells=true
 agg:∀e∈es,e.isAgg=agg
theorem sO: ∀{n:Nat} {c f:List AV},uo agg d n c=some f->aZ c=true->Chunk agg d n c f
 |0,c,f,h,k=>by
  cases h;exact⟨by simp[lQ],rfl,g_,by simp,g_,g_⟩
 |n+1,c,f,h,k=>by
  have⟨_,m,h⟩:=aC h;have⟨_,j,h⟩:=aC h;cases h;rw[iC]at j;have⟨l,_,_,_,_,_⟩:=HH m k;have i:aZ (c.drop d)=true:=by
   grind [dU,List.mem_of_mem_drop]
  have b:=sO j i;have g:=b.le;simp only[List.length_drop]at g;refine⟨?_,by simp[b.len],?_,by rw[Nat.succ_mul];omega,?_,?_⟩
  ·rw[cK,b.flat,l,List.drop_zero,Nat.succ_mul,Nat.add_comm (n*d) d,List.take_add]
  ·intro e a;cases a with
   |head=>omega
   |tail _ a=>exact b.size e a
  ·intro e a;cases a with
   |head=>omega
   |tail _ a=>exact b.fine e a
  intro e a;cases a with
  |head=>omega
  |tail _ a=>exact b.agg e a
theorem kX (h:aZ a=true)(n:Nat):aZ (a.take n)=true:=by
 grind [dU,List.mem_of_mem_take]
theorem iH (h:aZ a=true)(n:Nat):aZ (a.drop n)=true:=by
 grind [dU,List.mem_of_mem_drop]
theorem Sq {b:List Value}(a:bD g v.cells b)(d:aZ v.cells=true):bR g v (Fu v.isAgg b):=by
 cases c:v.isAgg with
 |true=>
  cases v<;>first|(simp[AV.isAgg]at c;done)|skip
  case agg e=>exact .agg d a
 |false=>
  rw[pj c]at a;cases a with
  |cons h t=>cases t;exact h
section
variable {C:Cx}{g:Gh}{U:Nat->Option (List AV)}{h h':AH}{w:World}{tm:Tm}{tmps:Array Value}{v:AV}
def rZ (a:aZ z.cells=true):z.lies=true:=by
 cases z<;>first|rfl|grind [AV.cells,dG,AV.isCell]
theorem wD (s:Sim C g U h w)(t:TypeId){sz:Nat}{cs:List AV}{us:Array Value}(j:0<sz)(a:Nat)(k:n<=a)(l:a*sz<=us.size)
  (i:cs.length<=a*sz) (f:bD g cs (us.toList.take cs.length)) (e:aZ cs=true) :
  ∃b c,(newRow t us).run C.P w=.ok ⟨w.heap.size,0,none⟩ c/\Ext g b/\Sim C b U (h.new (.row 0 sz agg cs 0)) c/\
   bR b (.row h.z 0 sz 0 n) (.slice (some ⟨w.heap.size,0,none⟩) n a):=by
 have ex:=g.at_ext ⟨w.heap.size,0,a,sz⟩ (s.rfresh 0);have⟨ex,d⟩:=s.alloc (.row 0 sz agg cs 0) (.cells us t) ⟨w.heap.size,0,a,sz⟩ rfl rfl
  ⟨rfl,j,us,t,heap_alloc_new _ _,by grind,i,by exact f.mono ex,e,λo v q=>by
   have q:g.F w.heap.size o=some v:=q;exact absurd (s.frz_lt q) o_,λm hm=>by
    rw[Gh.at_other g _ o_];exact s.rfresh m⟩
 refine⟨_,_,by simp[newRow],ex,d,?_⟩;have:=bR.row (g:=g.at h.z 0 ⟨w.heap.size,0,a,sz⟩) (k:=h.z) (n:=0) (sz:=sz) (off:=0) (len:=n) (g.at_same _ _ _) rfl (by grind);grind
theorem adz (s:Sim C g U h w)(ht:ig g tm tmps){r:AOp}(ho:o.op=.buildSlice t n parts)
  (b:cLit C.T t n parts=some r) (e:da r tm h=.val v h'):mi C g U h ((execOp (bE tmps) o).run C.P w) v h':=by
 obtain⟨J,k,b⟩:=aC b;obtain⟨j,m,b⟩:=aC b;obtain⟨z,hz,b⟩:=aC b;obtain⟨W,P,b⟩:=aC b;obtain⟨O,b⟩:=bj b;cases b;obtain⟨V,T⟩:=fq o_;have V:=mM V;have T:=lX T;obtain⟨d,R,k⟩:=aC k;cases d<;>first|(cases k;done)|skip
 case slice=>
 cases k;obtain⟨i,l,hi,N,hr,E,G,_⟩:=lO g hz;obtain⟨i',d',A,B,_⟩:=rJ m;rw[hi]at A;cases A;have F:=hr.cells (rZ G);have a:l.cells.size=j:=by have:=F.length;simp at this;omega
 obtain⟨p,rfl⟩:=fa (show okV (we (dI C.T J) j z.cells n (fJ W tm j)) h=.val v h' from e);unfold we at p;obtain⟨cs,Z,p⟩:=aC p;obtain⟨es,Q,p⟩:=aC p;cases p;obtain⟨c,q,S,f3,X⟩:=Aw (Mo (n:=j) ht P) Z (BH F n) (om _ G n);rw[nW,E,B]at X;have aa:c.size=n*j:=by have:=S.length;simp at this;omega
 have q:Instr.fill (λi=>some (i*j,j)) ((Array.range (n*l.cells.size)).map λi=>l.cells[i % l.cells.size]!)
  (parts.toList.map λx=>(x.1,bE tmps x.2))=some c:=q
 have M:∀I,(newRow J c).run C.P w=.ok ⟨w.heap.size,0,none⟩ I->
   (execOp (bE tmps) o).run C.P w=.ok (.value (.slice (some ⟨w.heap.size,0,none⟩) n n)) I:=by
  intro I y;have D:¬(n*j > 2 ^ 24):=by simp;omega
  by_cases h0:n*j=0
  ·have K:n=0:=by
    grind [Nat.mul_eq_zero]
   subst K;have r0:(Array.range (0*l.cells.size)).map (λi=>l.cells[i % l.cells.size]!)=#[]:=g_;rw[r0]at q;have r1:∀f:Nat->Value,(Array.range 0).map f=#[]:=g_;simp[execOp,ho,Instr.buildSlice,bZ R,dZ m,r1,q,y]
  simp only[a]at q;simp[execOp,ho,Instr.buildSlice,bZ R,dZ m,h0,D,fw hi N,a,q,y]
 have H:=sO Q f3;have L:bJ es=cs:=by rw[H.flat,l_ o_]
 obtain⟨ex,Y⟩:=s.allocFz c J;refine⟨_,_,_,.inl (M _ (by simp[newRow])),ex,Y,?_,.refl _⟩;refine .clip H.size (by grind) H.len.symm H.len ?_;rw[L];exact fO.mk (S.mono ex) λi u hu=>by simpa using Gh.fz_at g w.heap.size 0 c.toList hu
theorem IM (s:Sim C g U h w){x:AV}{p:Nat}(hx:bR g x u)(e:cC x h agg p=some v):
  ∃b c f,u=.pointer (some ⟨b,c,none⟩)/\f.length=p/\(∀i y,f[i]?=some y->w.cell? ⟨b,c+i,none⟩=some y)/\bD g v.cells f/\aZ v.cells=true/\v.isAgg=agg/\(agg=false->p=1):=by
 cases x<;>first|(cases e;done)|skip
 case vp a=>
  have⟨O,e⟩:=bj (c:=and (nJ a.isAgg agg) (Nat.beq (len a.cells) p)) e;cases e;have⟨d,r⟩:=fq O;have d:=Ae d;have r:=dB r;rw[bT]at r;obtain⟨b,c,q,Q,rfl⟩:=hx.vptr_inv;have⟨f,j,_⟩:=Q.vals;refine⟨b,c,f,rfl,by rw[<-j.length];omega,λi y hi=>s.frz _ _ _ g_,j,q,d,λX=>?_⟩;grind [pj]
 case ptr k n c=>
  have⟨o,ho,e⟩:=aC (o:=h.get k) e;obtain⟨l,B,rfl⟩:=hx.ptr_inv;have S:=s.live B;have⟨J,d,_,K⟩:=s.obj k o ho S;cases o<;>first|(cases e;done)|skip
  case box P=>
   have⟨m,A⟩:=bj (c:=Nat.beq n 0) e;have m:=dB m;subst m;have d:g.ρ k 0=some J:=d;rw[B]at d;cases d;have⟨T,f,t,H,j,q,_⟩:=K;have⟨F,R,N,E,z,G,V,D⟩:=Hw A j q;refine⟨l.block,l.base+c,_,rfl,F,λi y hi=>?_,by rw[D];exact(j.drop c).take p,G,E,z⟩;rw[cell_of_row _ _ _ f t (0,0) H,T];grind
  case row L M I P fz=>
   have⟨m,A⟩:=bj (c:=Nat.beq n L) e;have m:=dB m;subst m;have d:g.ρ k n=some J:=d;rw[B]at d;cases d;have⟨_,_,_,_,_,_,_,j,q,_,_⟩:=K;have⟨F,_,_,E,z,G,_,D⟩:=Hw A j q;refine⟨l.block,l.base+c,_,rfl,F,λi y hi=>?_,by rw[D];exact(j.drop c).take p,G,E,z⟩;grind [cell_of_row,Nat.add_assoc]
theorem Hm (s:Sim C g U h w){x:AV}(m:szT C.T t=some n)(hx:bR g x u)(e:cC x h (dI C.T t) n=some v):
  ∃a y,u=.pointer (some a)/\(loadVar t a).run C.P w=.ok y w/\bR g v y:=by
 obtain⟨_,_,d,rfl,_,f,_,_,_,_⟩:=IM s hx e;refine⟨_,Fu (dI C.T t) d,rfl,yh (by grind) g_ f,?_⟩;grind [Sq]
theorem Yo (s:Sim C g U h w)(k:ig g tm tmps){c:AX}(ho:o.op=.load t x)(f:szT C.T t=some n)(hx:cX x=some c)
  (e:okV (cC (ev c tm) h (dI C.T t) n) h=.val v h'):mi C g U h ((execOp (bE tmps) o).run C.P w) v h':=by
 obtain⟨j,rfl⟩:=fa e;have e:=j;have⟨_,_,i,b,d⟩:=Hm s f (cT k hx) e;exact bV s (by simp[execOp,ho,Instr.loadAt,Instr.sureAddr,i,b]) d
theorem sU {b:List Value}(c:bD g a b)(f:aZ a=true):∀u∈b,u.oneCell'=true:=by
 intro u e;have⟨_,hi⟩:=J_ e;have⟨x,_,d⟩:=c.get' hi;exact d.oneCell ((dU a).1 f x g_)
theorem NM (s:Sim C g U h w){a:Nat}{o o':dF}{l:Loc}{f:List AV}{r:List Value}(ho:h.get k=some o)(A:g.ρ k n=some l)
  (e:storeAt o n a f=some o') (E:bD g f r) (H:aZ f=true) :
  ∃L,(storeCells ⟨l.block,l.base+a,none⟩ r).run C.P w=.ok () L/\Sim C g U (h.set k o') L:=by
 have I:=s.live A;have⟨J,p,_,K⟩:=s.obj k o ho I;have O:=sU E H;have N:=E.length;cases o<;>first|(cases e;done)|skip
 case box j=>
  have⟨c,G⟩:=bj (c:=and (Nat.beq n 0) (Nat.ble (Nat.add a (len f)) (len j))) e;clear e;have e:=G;have⟨c,b⟩:=fq c;have c:=dB c;have b:=mM b;rw[bT,bT]at b;have b:a+f.length<=j.length:=b;subst c;cases e;have p:g.ρ k 0=some J:=p;rw[A]at p;cases p;have⟨P,x,t,F,d,v,D⟩:=K;have u:=d.length;simp only[Array.length_toList]at u;have z:=iJ (C:=C) (b:=l.block) (off:=l.base+a) (t:=t) r 0 w x F o_ o_;refine⟨_,o_,?_⟩;simp only[P,z_,Nat.add_zero];have m:l.block<w.heap.size:=g_;refine s.put ho I A rfl ⟨P,_,t,fC m,?_,oh a f H j v,D⟩ g_;exact E.setR a d
 case row Q W agg j fz=>
  have⟨c,G⟩:=bj (c:=and (Nat.beq n Q) (and (Nat.ble fz a) (Nat.ble (Nat.add a (len f)) (len j)))) e;clear e;have e:=G;have⟨c,b⟩:=fq c;have⟨B,b⟩:=fq b;have c:=dB c;have B:=mM B;have b:=mM b;rw[bT,bT]at b;have b:a+f.length<=j.length:=b;subst c;cases e;have p:g.ρ k n=some J:=p;rw[A]at p;cases p;have⟨hs,R,x,t,F,_,_,d,v,D,S⟩:=K;have u:=d.length;simp only[Y_,List.length_drop,Array.length_toList]at u;have z:=iJ (C:=C) (b:=l.block) (off:=l.base+a) (t:=t) r 0 w x F o_ o_;refine⟨_,o_,?_⟩;simp only[Nat.add_zero];have m:l.block<w.heap.size:=g_;have M:l.base+a+r.length<=x.toList.length:=by simp;omega
  refine s.put ho I A rfl ⟨hs,R,_,t,fC m,?_,by grind [lJ],?_,oh a f H j v,D,S⟩ (λi y q=>?_)
  ·grind [setR,lJ]
  ·have:((setR (l.base+a) r x.toList).drop l.base).take (setR a f j).length=setR a r ((x.toList.drop l.base).take j.length):=by
    rw[lJ];apply List.ext_getElem?;grind [uX]
   rw[this];exact E.setR a d
  have hi:=D i y q;rw[cell_of_row _ _ _ _ t (0,0) (fC m)];have:=s.frz _ _ _ q;grind [cell_of_row,setR,uX]
theorem Sz (s:Sim C g U h w)(A:ig g tm tmps){p d:AX}(ho:o.op=.store t x y)(H:szT C.T t=some n)(hx:cX x=some p)
  (L:cX y=some d) (e:okH (cY (ev p tm) h n (ev d tm))=.val v h'):mi C g U h ((execOp (bE tmps) o).run C.P w) v h':=by
 obtain⟨E,rfl⟩:=Mz e;have e:=E;have u:=cT A hx;have q:=cT A L;generalize ev p tm=a at u e;cases a<;>first|(cases e;done)|skip
 case ptr k m F=>
  obtain⟨I,e⟩:=bj (c:=and (Nat.beq (len (ev d tm).cells) n) (ev d tm).lies) e;obtain⟨i,z⟩:=fq I;have i:=dB i;rw[bT]at i;obtain⟨M,j,e⟩:=aC e;obtain⟨K,r,e⟩:=aC e;cases e;obtain⟨l,G,J⟩:=u.ptr_inv;have b:=q.cells z;obtain⟨B,c,D⟩:=NM s j G o_ o_ (q.fine z);have f:(bE tmps y).cells.size=n:=by have:=b.length;simp at this;omega
  refine⟨g,B,undef,.inr ⟨?_,rfl⟩,.refl g,D,.tup .nil,Low.set _ _ _⟩;simp[execOp,ho,Instr.storeAt,Instr.sureAddr,J,storeVar,dZ H,f,c]
theorem OC (s:Sim C g U h w)(n:ig g tm tmps){j:AX}(ho:o.op=.nilCheck x)(hx:cX x=some j)
  (e:okV (vj (ev j tm)) h=.val v h'):mi C g U h ((execOp (bE tmps) o).run C.P w) v h':=by
 have d:=cT n hx;obtain⟨q,rfl⟩:=fa e;generalize ev j tm=a at d q;cases a<;>first|(cases q;done)|skip
 case ptr k m i=>
  cases q;have⟨_,_,c⟩:=d.ptr_inv;exact bV s (by simp[execOp,ho,c]) (c▸d)
 case vp a=>
  cases q;have⟨b,_,_,_,c⟩:=d.vptr_inv;exact bV s (by simp[execOp,ho,c]) (c▸d)
 case fn f a b=>
  cases q;have⟨_,_,_,_,c⟩:=d.fn_inv;exact bV s (by simp[execOp,ho,c]) (c▸d)
theorem IH (s:Sim C g U h w)(n:ig g tm tmps){b:AX}(ho:o.op=.extract x i)(hx:cX x=some b)
  (e:okV (aI (ZX (ev b tm)) λl=>xF i l) h=.val v h'):mi C g U h ((execOp (bE tmps) o).run C.P w) v h':=by
 obtain⟨d,rfl⟩:=fa e;have e:=d;have⟨_,j,e⟩:=aC e;rw[jQ]at e;have a:=cT n hx;rw[NH j]at a;have⟨_,f,k⟩:=a.tup_inv;have⟨_,m,c⟩:=f.get e;exact bV s (by simp[execOp,ho,k,Instr.extract,m]) c
theorem IX (e:zI C.T t f=some p):
  ∃c b,C.P.underlying t=some (.struct c)/\und C.T t=some (.struct c)/\c[f]?=some b/\p.1=b.offset/\szT C.T b.type=some p.2.1/\0<p.2.1/\p.2.2=dI C.T b.type:=by
 have⟨c,a,e⟩:=aC e;have⟨b,_,e⟩:=aC e;have⟨_,i,e⟩:=aC e;have⟨k,e⟩:=bj e;cases e;have⟨d,g,a⟩:=aC a;cases d<;>first|(cases a;done)|skip
 case struct h=>
 cases a;exact⟨c,b,Ug g,g,by grind,rfl,i,lX k,rfl⟩
theorem SF (s:Sim C g U h w)(K:ig g tm tmps){z:AX}(ho:o.op=.fieldAddr t x f)(H:zI C.T t f=some p)(hx:cX x=some z)
  (e:okV (cy (ev z tm) p.1 p.2.1 p.2.2) h=.val v h'):mi C g U h ((execOp (bE tmps) o).run C.P w) v h':=by
 have⟨_,_,_,D,r,M,I,_,_⟩:=IX H;have u:=cT K hx;have q:¬p.2.1=0:=o_;have i:∀b c,bE tmps x=.pointer (some ⟨b,c,none⟩)->(execOp (bE tmps) o).run C.P w=.ok (.value (.pointer (some ⟨b,c+p.1,none⟩))) w:=by
  intro b c j;simp[execOp,ho,j,Instr.fieldAt,Instr.sureAddr,bZ D,r,fieldPlace,dZ I,q,nE,M]
 obtain⟨d,rfl⟩:=fa e;generalize ev z tm=a at u d;cases a<;>first|(cases d;done)|skip
 case ptr k m c=>
  cases d;have⟨_,F,j⟩:=u.ptr_inv;refine bV s (i _ _ j) ?_;rw[Nat.add_assoc];exact .ptr F
 case vp a=>
  have⟨G,A,d⟩:=aC d;have⟨_,J,d⟩:=aC d;cases d;have⟨b,c,B,n,j⟩:=u.vptr_inv;rw[wM A]at B n;have n:fO g b c G:=n;have⟨L,_,_,_,E,_⟩:=HH J B;refine bV s (i _ _ j) (.vp E ?_);rw[L];exact n.sub p.1 p.2.1 o_
end
theorem qI:∀{b:List AV} {a n:Nat} {v:AV},(∀e∈b,e.cells.length=a)->b[n]?=some v->((bJ b).drop (n*a)).take a=v.cells/\n*a+a<=(bJ b).length
 |[],a,n,v,_,h=>by grind
 |e::b,a,0,v,hs,h=>by
  grind [cK,List.take_left',H_]
 |e::b,a,n+1,v,hs,h=>by
  have c:=hs e (.head _);obtain⟨d,f⟩:=qI (n:=n) (λx hx=>hs x (.tail _ hx)) (by simpa using h);rw[cK];refine⟨?_,by rw[H_,Nat.succ_mul];omega⟩;rw[<-d,Nat.succ_mul,Nat.add_comm (n*a) a,<-List.drop_drop,List.drop_left' c]
theorem eR: ∀{a:List AV},(∀e∈a,e.cells.length=b)->(bJ a).length=a.length*b
 |[],_=>by simp[lQ]
 |e::a,hs=>by
  rw[cK,H_,hs e (.head _),eR (λx hx=>hs x (.tail _ hx)),M_,Nat.succ_mul,Nat.add_comm]
theorem Dy (h:aZ (bJ a)=true):∀e∈a,aZ e.cells=true:=by
 induction a with
 |nil=>grind
 |cons x a b=>
  grind [cK,jr]
section
variable {C:Cx}{g:Gh}{U:Nat->Option (List AV)}{h h':AH}{w:World}{tm:Tm}{tmps:Array Value}{v:AV}
theorem Jt {x:AV}(e:acq x b=some n):(∃k,x=.int k (n:Int))/\n<b:=by
 have⟨_,hm,e⟩:=aC e;have⟨a,e⟩:=bj e;cases e;exact⟨sD hm,lX a⟩
theorem ub {x:AV}(e:py x b=some n):(∃k,x=.int k (n:Int))/\n<=b:=by
 have⟨_,hm,e⟩:=aC e;have⟨a,e⟩:=bj e;cases e;exact⟨sD hm,mM a⟩
def mV (f:und C.T t=some (.slice e))(g:szT C.T e=some d){a:Nat}{k:IntKind}(hi:i<len):
  (Instr.indexAt t (.slice (some ⟨b,a,none⟩) len c) (.int k (i:Int))).run C.P w=.ok (.pointer (some ⟨b,a+i*d,none⟩)) w:=by
 simp[Instr.indexAt,asIntOf,bZ f,hi,dZ g,nE]
theorem Sp {i:AV}(e:QN a b i=some v):∃(k:IntKind) (n:Nat) (x:AV),i=.int k (n:Int)/\a[n]?=some x/\x.cells.length=b/\v=.vp x:=by
 have⟨_,_,e⟩:=aC e;have⟨_,_,e⟩:=aC e;grind [sD,dB,bT,jQ]
def getElem?_lt {a:Type}{l:List a}{n:Nat}{x:a}(h:l[n]?=some x):n<l.length:=by
 grind
theorem SD (s:Sim C g U h w)(N:ig g tm tmps){J:TypeId}{i:Operand}{G E:AX}{u:Nat}(ho:o.op=.indexAddr t x i)(D:mP C.T t=some J)(K:szT C.T J=some u)
  (hx:cX x=some G) (hi:cX i=some E) (e:okV (bW (ev G tm) u (ev E tm)) h=.val v h'):mi C g U h ((execOp (bE tmps) o).run C.P w) v h':=by
 have I:=ux D;have B:=cT N hx;have A:=cT N hi;obtain⟨d,rfl⟩:=fa e;have fin:∀(q:List AV) (a:Option Addr) (r:Nat),bE tmps x=.slice a q.length r->
   (q=[]\/∃u b f,a=some ⟨b,f,none⟩/\(∀d∈q,d.cells.length=u)/\aZ (bJ q)=true/\fO g b f (bJ q))->
   QN q u (ev E tm)=some v->mi C g U h' ((execOp (bE tmps) o).run C.P w) v h':=by
  intro q a r z c d;obtain⟨k,n,y,hk,M,_,rfl⟩:=Sp d;rw[hk]at A;rcases c with rfl|⟨p,b,f,rfl,hs,F,Q⟩
  ·grind
  have:p=u:=by grind
  subst this;have⟨T,_⟩:=qI hs M;refine bV (u:=.pointer (some ⟨b,f+n*p,none⟩)) s ?_ (.vp (Dy F y g_) ?_)
  ·simp only[execOp,ho,z,A.int_inv,Sem.run_bind,mV I K (getElem?_lt M),Result.andThen_ok,Sem.run_pure]
  rw[<-T];exact Q.sub (n*p) p o_
 generalize ev G tm=a at B d;cases a<;>first|(cases d;done)|skip
 case ls q=>
  have⟨a,r,z,_,c⟩:=B.lst_inv;exact fin q a r z o_ d
 case clip q=>
  have⟨a,z,_⟩:=B.clip_inv;exact fin q a _ z o_ d
 case row k n p f m=>
  have⟨L,d⟩:=bj d;have⟨j,S,d⟩:=aC d;cases d;have L:=dB L;have⟨⟨_,hk⟩,H⟩:=Jt S;rw[hk]at A;have⟨l,_,P,_,_,z,F⟩:=B.row_inv;rcases F with rfl|⟨rfl,_⟩
  ·refine bV s (u:=.pointer (some ⟨l.block,l.base+(f+j)*u,none⟩)) ?_ (.ptr P);simp only[execOp,ho,z,A.int_inv,Sem.run_bind,mV I K H,Result.andThen_ok,Sem.run_pure];grind
  omega
theorem OB (s:Sim C g U h w)(u:ig g tm tmps){i:Operand}{r m:AX}(ho:o.op=.index t x i)(y:und C.T t=some .string)
  (hx:cX x=some r) (hi:cX i=some m) (e:okV (vg (ev r tm) (ev m tm)) h=.val v h'):mi C g U h ((execOp (bE tmps) o).run C.P w) v h':=by
 obtain⟨a,rfl⟩:=fa e;have⟨f,hs,a⟩:=aC a;have⟨n,z,a⟩:=aC a;have⟨b,c,a⟩:=aC a;cases a;rw[jQ]at c;have q:=cT u hx;have p:=cT u hi;rw[yv hs]at q;have⟨_,hk⟩:=sD z;rw[hk]at p;have l:f[n]?=some b:=by
  have j:=getElem?_lt c;have d:n<f.size:=by
   simp_all
  rw[getElem?_pos f n d];rw[a_ j]at c;cases c;rfl
 refine bV s ?_ (.int _ _);simp[execOp,ho,q.str_inv,p.int_inv,Instr.index,asIntOf,bZ y,l]
theorem tH (a b:Int):Ri a b=(a==b):=by
 cases a with
 |ofNat m=>cases b with
  |ofNat n=>
   show Nat.beq m n=_;by_cases h:m=n
   ·subst h;simp
   grind [Gg]
  |negSucc n=>rfl
 |negSucc m=>cases b with
  |ofNat n=>rfl
  |negSucc n=>
   show Nat.beq m n=_;by_cases h:m=n
   ·subst h;simp
   grind [Gg]
theorem uP (a b:Int):leI a b=decide (a<=b):=by
 have key:∀m n:Nat,Nat.ble m n=decide (m<=n):=λm n=>by
  cases h:Nat.ble m n with
  |true=>simp_all
  |false=>have:=CS h;simp;omega
 cases a with
 |ofNat m=>cases b with
  |ofNat n=>
   show Nat.ble m n=_;rw[key];congr 1;simp
  |negSucc n=>
   show false=_;symm;simp only[decide_eq_false_iff_not];have:Int.ofNat m=(m:Int):=rfl;omega
 |negSucc m=>cases b with
  |ofNat n=>
   show true=_;symm;simp only[decide_eq_true_eq];have:Int.ofNat n=(n:Int):=rfl;omega
  |negSucc n=>
   show Nat.ble n m=_;rw[key];congr 1;simp only[eq_iff_iff];omega
def Nc {a b:IntKind}(h:Rh a b=true):a=b:=by cases a<;>cases b<;>first|rfl|(cases h)
theorem CV (a:IntKind):Rh a a=true:=by cases a<;>rfl
theorem nQ (n:Int)(d : -(2 ^ 63)<=n)(c:n<2 ^ 63):IntKind.i64.wrap n=n:=by
 have a:(2 ^ IntKind.i64.bits:Int)=18446744073709551616:=rfl;have e:(2 ^ (IntKind.i64.bits-1):Int)=9223372036854775808:=rfl;have b:IntKind.i64.signed=true:=rfl;grind [IntKind.wrap,ge_iff_le]
theorem rG (k:IntKind)(n:Int):Dc k n=.int k (k.wrap n):=by
 unfold Dc;cases hk:Nat.beq (QR k) 3 with
 |false=>rfl
 |true=>
  have:k=.i64:=by cases k<;>first|rfl|(cases hk)
  subst this;show Uf n=_;cases n with
  |ofNat m=>
   show cond (Nat.blt m 9223372036854775808) _ _=_;cases hm:Nat.blt m 9223372036854775808 with
   |false=>rfl
   |true=>
    have:=lX hm;grind [nQ,Int.ofNat_eq_natCast]
  |negSucc m=>
   show cond (Nat.blt m 9223372036854775808) _ _=_;cases hm:Nat.blt m 9223372036854775808 with
   |false=>rfl
   |true=>
    have:=lX hm;grind [nQ]
end
theorem vX:∀a b:List UInt8,aaj a b=(a==b)
 |[],[]=>rfl
 |[],_::_=>rfl
 |_::_,[]=>rfl
 |x::a,y::b=>by
  show and (Nat.beq x.toNat y.toNat) (aaj a b)=_;rw[vX a b];by_cases h:x=y
  ·subst h;simp
  grind [UInt8.toNat_inj,Gg]
theorem EA (a b:ByteArray):Kd a b=(a.toList==b.toList):=by
 rw[ByteArray.toList_eq,ByteArray.toList_eq];exact vX _ _
theorem nj (a b:ByteArray):Kd a b=(a==b):=by
 have e:(a==b)=(a.data==b.data):=rfl;grind [Kd,vX,Array.ext']
section
variable {C:Cx}{g:Gh}{U:Nat->Option (List AV)}{h h':AH}{w:World}{tm:Tm}{tmps:Array Value}{v:AV}
theorem zw (a b:Int):(!(leI b a))=decide (a<b):=by
 grind [uP]
def XR {c:BinOp}{k:IntKind}{a b:Int}(e:qy c k a b=some v):
  ∃u,(binOp c t (.int k a) (.int k b)).run C.P w=.ok u w/\bR g v u:=by
 cases c<;>cases e
 case add=>rw[rG];exact⟨_,by simp[binOp,Op.intArith],.int _ _⟩
 case sub=>rw[rG];exact⟨_,by simp[binOp,Op.intArith];rfl,.int _ _⟩
 case mul=>rw[rG];exact⟨_,by simp[binOp,Op.intArith],.int _ _⟩
 case eql=>rw[tH];exact⟨_,by simp[binOp,Op.intCmp],.bool _⟩
 case neq=>rw[tH];exact⟨.bool (a != b),by simp[binOp,Op.intCmp],.bool _⟩
 case lss=>rw[zw];exact⟨_,by simp[binOp,Op.intCmp],.bool _⟩
 case leq=>rw[uP];exact⟨_,by simp[binOp,Op.intCmp],.bool _⟩
 case gtr=>rw[zw];exact⟨_,by simp[binOp,Op.intCmp],.bool _⟩
 case geq=>rw[uP];exact⟨_,by simp[binOp,Op.intCmp],.bool _⟩
theorem XP {d:BinOp}{a b:ByteArray}(e:FE d a b=some v):
  ∃u,(binOp d t (.string a) (.string b)).run C.P w=.ok u w/\bR g v u:=by
 cases d<;>first|(cases e;done)|skip
 case add=>
  have⟨c,e⟩:=lq (c:=Nat.blt 9223372036854775807 (Nat.add a.size b.size)) e;have c:=PL c;have c:=c;cases e;have hm:IntKind.i64.max=9223372036854775807:=rfl;exact⟨_,by grind [binOp,Op.stringOp,Sem.run_pure],.str _⟩
 all_goals cases e
 case eql=>rw[EA];exact⟨_,by simp[binOp,Op.stringOp],.bool _⟩
 case neq=>rw[EA];exact⟨_,by simp[binOp,Op.stringOp],.bool _⟩
theorem samePl_cases {t:Nat}{a b:AV}(e:ie t a b=some r):
  (t=1/\∃k m n,a=.int k m/\b=.int k n/\r=(m==n))\/(t=2/\∃x y,a=.str x/\b=.str y/\r=Kd x y)\/(t≠1/\t≠2/\∃x y,a=.bool x/\b=.bool y/\r=(x==y)):=by
 unfold ie at e;cases f:Nat.beq t 1 with
 |true=>
  rw[f]at e;have⟨p,c,e⟩:=aC (o:=Qk a) e;have⟨q,d,e⟩:=aC e;have⟨i,e⟩:=bj e;cases e;have:=Nc i;have⟨l,j⟩:=p;have⟨o,h⟩:=q;subst this;exact .inl ⟨dB f,l,j,h,mz c,mz d,tH _ _⟩
 |false=>
  have n1:t≠1:=λq=>by simp_all
  rw[f]at e;cases g:Nat.beq t 2 with
  |true=>
   rw[g]at e;have⟨p,c,e⟩:=aC (o:=Jz a) e;have⟨q,d,e⟩:=aC e;grind [dB,yv]
  |false=>
   have n2:t≠2:=λq=>by simp_all
   rw[g]at e;have⟨p,c,e⟩:=aC (o:=AU a) e;have⟨q,d,e⟩:=aC e;cases e;exact .inr (.inr ⟨n1,n2,p,q,tV c,tV d,BY _ _⟩)
def tagD_ok {d:TypeDesc}(e:Kb d=some n):(n=0/\d=.bool)\/(n=1/\∃k,d=.int k)\/(n=2/\d=.string):=by
 cases d<;>first|(cases e;done)|skip
 case bool=>cases e;grind
 case int k=>cases e;grind
 case string=>cases e;grind
theorem mW {d:TypeDesc}{a b:AV}{x y:Value}(h:und C.T t=some d)(j:Kb d=some n)(i:bR g a x)(l:bR g b y)
  (e:ie n a b=some r) (c:Nat):(Op.equalIn (c+1) t x y).run C.P w=.ok r w:=by
 rcases samePl_cases e with⟨rfl,k,m,v,rfl,rfl,rfl⟩|⟨rfl,s,o,rfl,rfl,rfl⟩|⟨n1,n2,p,q,rfl,rfl,rfl⟩
 ·rcases tagD_ok j with⟨f,_⟩|⟨_,u,rfl⟩|⟨f,_⟩
  ·omega
  ·rw[i.int_inv,l.int_inv];simp[Op.equalIn,bZ h]
  omega
 ·rcases tagD_ok j with⟨f,_⟩|⟨f,_⟩|⟨_,rfl⟩
  ·omega
  ·omega
  rw[i.str_inv,l.str_inv,nj];simp[Op.equalIn,bZ h]
 rcases tagD_ok j with⟨_,rfl⟩|⟨f,_⟩|⟨f,_⟩
 ·rw[i.bool_inv,l.bool_inv];simp[Op.equalIn,bZ h]
 all_goals omega
theorem qp {a:Nat}(e:JQ a b=some r):(a=0/\b=0/\r=true)\/(a=0/\b=1/\r=false)\/(a=1/\b=0/\r=false):=by
 grind [JQ,Nat.beq,dB,Nat.eq_zero_or_pos]
theorem Bv {a:AV}{x:Value}(b:bR g a x)(e:VC a=0):x=.nilIface:=by cases a<;>first|(cases e;done)|exact b.nili_inv
theorem Ks {a:AV}{x:Value}(b:bR g a x)(e:VC a=1):∃t p,x=.iface t p:=by
 cases a<;>first|(cases e;done)|skip
 case ifc=>have⟨_,_,_⟩:=b.ifc_inv;grind
theorem EF {a:AV}{x:Value}(c:bR g a x)(e:aad a=0):x=.slice none 0 0:=by
 cases a<;>first|(cases e;done)|skip
 case nl=>exact c.nils_inv
 case ls b=>cases b<;>cases e
 case clip b=>cases b<;>cases e
 case row k n f d m=>cases m<;>cases e
theorem UE {a:AV}{x:Value}(d:bR g a x)(e:aad a=1):∃p m c,x=.slice (some p) m c:=by
 cases a<;>first|(cases e;done)|skip
 case ls b=>
  cases b with
  |nil=>cases e
  |cons y b=>
   have⟨a,_,h,_,f⟩:=d.lst_inv;grind
 case clip b=>
  cases b with
  |nil=>cases e
  |cons y b=>
   have⟨a,h,f⟩:=d.clip_inv;grind
 case row k n o j m=>
  cases m with
  |zero=>cases e
  |succ m=>
   have⟨_,_,_,_,_,_,_⟩:=d.row_inv;grind
theorem Bg {v A:List Value}(N:bD g as v)(K:bD g bs A)(e:Nat):
  ∀(o:List Field) (l:List (Nat×Nat)) (r:Bool),ma (gv C.T) o=some l->tF l as bs=some r->
   (forIn (m:=Sem) o ((none,()):Option Bool×Unit) λf _=>
    if f.name≠ "_" then do
     let a <-part f.type ⟨v⟩ f.offset
     let b <-part f.type ⟨A⟩ f.offset
     let c <-Op.equalIn (e+1) f.type a b
     if (!c)=true then pure (ForInStep.done (some false,())) else pure (ForInStep.yield (none,()))
    else pure (ForInStep.yield (none,()))).run C.P w=.ok (if r then (none,()) else (some false,())) w:=by
 intro o;induction o with
 |nil=>intro l r u h;cases u;cases h;simp
 |cons f o Q=>
  intro l r u h;obtain⟨_,I,i,_,rfl⟩:=cA u;unfold gv at i;split at i
  ·grind
  rename_i j;have⟨_,t,i⟩:=aC i;have⟨n,F,i⟩:=aC i;have⟨_,_,i⟩:=aC i;cases i;have h:aI (xF f.offset as) (λx=>aI (xF f.offset bs) λy=>aI (ie n x y) λs=>cond s (tF I as bs) (some false))=some r:=h;have⟨_,hx,h⟩:=aC h;have⟨_,q,h⟩:=aC h;have⟨_,D,h⟩:=aC h;rw[jQ]at hx q;have⟨H,E,J⟩:=N.get hx;have⟨L,z,G⟩:=K.get q;have m:dI C.T f.type=false:=by
   unfold dI;rw[t];rcases tagD_ok F with⟨_,rfl⟩|⟨_,k,rfl⟩|⟨_,rfl⟩<;>rfl
  have O:(part f.type ⟨v⟩ f.offset).run C.P w=.ok H w:=by
   simp[part,mc t,m,E]
  have P:(part f.type ⟨A⟩ f.offset).run C.P w=.ok L w:=by
   simp[part,mc t,m,z]
  have B:=mW (w:=w) t F J G D e;rw[List.forIn_cons];simp only[ne_eq,j,not_false_eq_true,if_true,Sem.run_bind,O,P,B,Result.andThen_ok];grind [tF,Bool.not_true,Bool.false_eq_true,Sem.run_pure,Result.andThen_ok]
theorem oH {a:Array Field}{l:List (Nat×Nat)}{c d:List Value}(f:und C.T t=some (.struct a))(hs:C.P.stoodInHeld t=false)
  (h:ma (gv C.T) a.toList=some l) (i:bD g as c) (j:bD g bs d) (e:tF l as bs=some r):(Op.equal t (.agg ⟨c⟩) (.agg ⟨d⟩)).run C.P w=.ok r w:=by
 have b:=Bg (C:=C) (w:=w) i j 9998 a.toList l r h e;show(Op.equalIn (9999+1) t _ _).run C.P w=_;unfold Op.equalIn;simp only[Sem.run_bind,bZ f,Result.andThen_ok,run_program,hs,Bool.false_eq_true,if_false,<-Array.forIn_toList];rw[b];cases r<;>rfl
theorem BZ {c:Bool}{k:EqK}{a b:AV}{x y:Value}(hk:eqK C.P C.T t c=some k)(i:bR g a x)(j:bR g b y)(e:aah k a b=some r):
  (Op.equal t x y).run C.P w=.ok r w/\((x=.nilIface/\y=.nilIface)->c=true)/\((∃p q,x=.agg p/\y=.agg q)->C.P.eqGuardType C.P.depth t=false):=by
 have⟨d,s,hk⟩:=aC hk;show(Op.equalIn (9999+1) t x y).run C.P w=_/\_;cases d<;>first|(cases hk;done)|skip
 case bool=>
  cases hk;have e:=e;refine⟨mW s rfl i j e 9999,?_,?_⟩
  all_goals
   rcases samePl_cases e with⟨F,_⟩|⟨F,_⟩|⟨_,_,p,q,rfl,rfl,_⟩
   ·omega
   ·omega
   rw[i.bool_inv,j.bool_inv];grind
 case int=>cases hk;cases e
 case string=>cases hk;cases e
 case slice I=>
  generalize 9999=z;cases hk;have⟨n,e⟩:=bj (c:=Nat.beq (aad b) 0) e;have n:=dB n;have ex:∃p m B,x=.slice p m B:=by
   grind [qp,EF,UE]
  refine⟨?_,?_,?_⟩
  ·rcases qp e with⟨h,o,rfl⟩|⟨h,o,rfl⟩|⟨h,o,rfl⟩
   ·rw[EF i h,EF j n];simp[Op.equalIn,bZ s]
   ·omega
   have⟨p,_,_,u⟩:=UE i h;rw[u,EF j n];simp[Op.equalIn,bZ s]
  all_goals grind
 case interface M=>
  generalize 9999=z;have⟨n,hk⟩:=bj hk;cases hk;have e:JQ (VC a) (VC b)=some r:=e;have ex:x=.nilIface\/∃G p,x=.iface G p:=by
   grind [qp,Bv,Ks]
  refine⟨?_,λ_=>n,by grind⟩;rcases qp e with⟨h,o,rfl⟩|⟨h,o,rfl⟩|⟨h,o,rfl⟩
  ·rw[Bv i h,Bv j o];simp[Op.equalIn,bZ s]
  ·have⟨f,p,u⟩:=Ks j o;rw[Bv i h,u];simp[Op.equalIn,bZ s]
  have⟨_,_,u⟩:=Ks i h;rw[u,Bv j o];simp[Op.equalIn,bZ s]
 case struct K=>
  have⟨n,hk⟩:=lq (c:=C.P.stoodInHeld t||C.P.eqGuardType C.P.depth t) hk;have⟨_,D,hk⟩:=aC hk;cases hk;have n:C.P.stoodInHeld t=false/\C.P.eqGuardType C.P.depth t=false:=by grind
  have⟨_,v,e⟩:=aC (o:=VF a) e;have⟨_,A,e⟩:=aC e;rw[wM v]at i;rw[wM A]at j;obtain⟨_,_,H,rfl⟩:=i.agg_inv;obtain⟨_,_,E,rfl⟩:=j.agg_inv;refine⟨oH s g_ D H E e,?_,g_⟩;grind
def UO (e:isC x=true):∃v,x=.const v:=by cases x<;>first|(cases e;done)|grind
theorem iK {op:BinOp}{a b:Value}(e:(a=.nilIface/\b=.nilIface)->(isC x||isC y)=true)
  (d:(∃p q,a=.agg p/\b=.agg q)->C.P.eqGuardType C.P.depth t=false):(eqGuard op t x y a b).run C.P w=.ok () w:=by
 unfold eqGuard;cases op<;>first
  |rfl
  |(simp only[Bool.not_true,Bool.false_eq_true,if_false]
    split
    ·cases hx:isC x with
     |true=>obtain⟨v,rfl⟩:=UO hx;simp
     |false=>
      have c:isC y=true:=by grind
      obtain⟨_,rfl⟩:=UO c;simp
    all_goals simp_all)
theorem adC (s:Sim C g U h w)(M:ig g tm tmps){q:BinOp}{Q:TypeId}{d:AX}{k:EqK}(ho:o.op=.binOp q t x y Q)
  (hk:eqK C.P C.T t (isC x||isC y)=some k) (hx:cX x=some L) (O:cX y=some d) (e:okV (rj (ev L tm) q k (ev d tm)) h=.val v h') :
  mi C g U h ((execOp (bE tmps) o).run C.P w) v h':=by
 obtain⟨i,rfl⟩:=fa e;clear e;have B:=cT M hx;have f:=cT M O;have j:∀a,bR g a (bE tmps x)->(∀k n,a≠.int k n)->(∀s,a≠.str s)->UX q k a (ev d tm)=some v->mi C g U h' ((execOp (bE tmps) o).run C.P w) v h':=by
  intro a D A z e;cases q<;>first|(cases e;done)|skip
  case eql=>
   have⟨r,p,e⟩:=aC (o:=aah k a (ev d tm)) e;cases e;have⟨I,E,G⟩:=BZ (w:=w) hk D f p;refine bV s ?_ (.bool r);have l:=iK (C:=C) (w:=w) (op:=.eql) (t:=t) (x:=x) (y:=y) E G;have K:(binOp .eql t (bE tmps x) (bE tmps y)).run C.P w=.ok (.bool r) w:=by
    generalize bE tmps x=X at *;generalize bE tmps y=Y at *;generalize ev d tm=b at *;cases D<;>first
     |(exact absurd rfl (A _ _))
     |(exact absurd rfl (z _))
     |(cases f<;>first|(simp[binOp,I];done)|(cases k<;>first|(cases p;done)|(rename_i c;cases c<;>cases p)))
   simp[execOp,ho,l,K]
  case neq=>
   have⟨r,p,e⟩:=aC (o:=aah k a (ev d tm)) e;cases e;have⟨I,E,G⟩:=BZ (w:=w) hk D f p;refine bV s ?_ (.bool (!r));have l:=iK (C:=C) (w:=w) (op:=.neq) (t:=t) (x:=x) (y:=y) E G;have K:(binOp .neq t (bE tmps x) (bE tmps y)).run C.P w=.ok (.bool (!r)) w:=by
    generalize bE tmps x=X at *;generalize bE tmps y=Y at *;generalize ev d tm=b at *;cases D<;>first
     |(exact absurd rfl (A _ _))
     |(exact absurd rfl (z _))
     |(cases f<;>first|(simp[binOp,I];done)|(cases k<;>first|(cases p;done)|(rename_i c;cases c<;>cases p)))
   simp[execOp,ho,l,K]
 generalize ev L tm=a at B i;cases a
 case int F n=>
  generalize ev d tm=b at f i;cases b<;>first|(cases i;done)|skip
  case int R m=>
   have⟨N,P⟩:=bj (c:=Rh F R) i;obtain rfl:=Nc N;have⟨u,J,H⟩:=XR (C:=C) (g:=g) (w:=w) (t:=t) P;refine bV s ?_ H;have l:=iK (C:=C) (w:=w) (op:=q) (t:=t) (x:=x) (y:=y) (a:=.int F n) (b:=.int F m) g_ g_;simp[execOp,ho,B.int_inv,f.int_inv,l,J]
 case str n=>
  generalize ev d tm=b at f i;cases b<;>first|(cases i;done)|skip
  case str m=>
   have⟨_,J,H⟩:=XP (C:=C) (g:=g) (w:=w) (t:=t) i;refine bV s ?_ H;have l:=iK (C:=C) (w:=w) (op:=q) (t:=t) (x:=x) (y:=y) (a:=.string n) (b:=.string m) g_ g_;simp[execOp,ho,B.str_inv,f.str_inv,l,J]
 all_goals exact j _ B g_ g_ i
theorem op_un (s:Sim C g U h w)(f:ig g tm tmps){b:AX}(ho:o.op=.unOp .not t x)(hx:cX x=some b)
  (e:da (.un b) tm h=.val v h'):mi C g U h ((execOp (bE tmps) o).run C.P w) v h':=by
 obtain⟨a,rfl⟩:=fa e;have c:=cT f hx;have⟨_,d,a⟩:=aC (o:=AU (ev b tm)) a;cases a;rw[tV d]at c;refine bV s ?_ (.bool _);simp[execOp,ho,c.bool_inv,Op.unary]
theorem IG (s:Sim C g U h w)(e:ig g tm tmps){d:TypeDesc}{a:AX}(ho:o.op=.makeInterface t x)(b:und C.T t=some d)
  (c:vR d=false) (hx:cX x=some a):mi C g U h ((execOp (bE tmps) o).run C.P w) (.ifc t (ev a tm)) h:=by
 refine bV s ?_ (.ifc (cT e hx));simp only[execOp,ho,Instr.makeInterface,Sem.run_bind,bZ b,Result.andThen_ok];cases d<;>first|(cases c;done)|rfl
theorem Yn (s:Sim C g U h w)(j:ig g tm tmps){f:FuncId}{a b:Array Operand}{i d:List AX}(ho:o.op=.makeFunc (.func f) a b)(l:cXs a=some i)
  (k:cXs b=some d):mi C g U h ((execOp (bE tmps) o).run C.P w) (.fn f (evs i tm) (evs d tm)) h:=by
 refine bV s ?_ (.fn (qO j l) (qO j k));have e:∀c:Array Operand,c.map (bE tmps)=⟨c.toList.map (bE tmps)⟩:=g_;grind [execOp,Instr.makeFunc,Sem.run_bind,Sem.run_pure,Result.andThen_ok]
theorem SA (s:Sim C g U h w)(ho:o.op=.makeMap t none):mi C g U h ((execOp (bE tmps) o).run C.P w) (.map h.z) (h.new (.map [])):=by
 have⟨ex,a⟩:=s.alloc (.map []) (.map #[] 0) ⟨w.heap.size,0,0,0⟩ rfl rfl ⟨#[],0,heap_alloc_new _ _,.nil,by simp,by simp⟩;refine⟨_,_,_,.inl ?_,ex,a,.map (l:=⟨w.heap.size,0,0,0⟩) (g.at_same _ _ _),Low.new _ _⟩;simp[execOp,ho,Instr.makeMap]
theorem OG (s:Sim C g U h w)(H:ig g tm tmps){B:TypeId}{d:TypeDesc}{n:AX}(ho:o.op=.typeAssert x B t true)(p:und C.T t=some d)
  (r:vR d=false) (hx:cX x=some n) (F:pq C.T t=some z) (e:okV (rV (ev n tm) t z) h=.val v h') :
  mi C g U h ((execOp (bE tmps) o).run C.P w) v h':=by
 obtain⟨k,rfl⟩:=fa e;have y:=cT H hx;have⟨_,D,hi,l,A,_⟩:=lO g F;have b:=fw (w:=w) hi l;generalize ev n tm=a at y k;cases a<;>first|(cases k;done)|skip
 case ifc t0 E=>
  have⟨u,G,c⟩:=y.ifc_inv;have f:some (cond (Nat.beq t0 t) (.tup [E,.bool true]) (.tup [z,.bool false]))=some v:=k;cases m:Nat.beq t0 t with
  |true=>
   rw[m]at f;obtain rfl:=dB m;cases f;refine bV s (u:=.tuple #[u,.bool true]) ?_ (.tup (.cons G (.cons (.bool _) .nil)));simp only[execOp,ho,c,Instr.typeAssert,Sem.run_bind,bZ p,Result.andThen_ok];cases d<;>first|(cases r;done)|simp
  |false=>
   rw[m]at f;have j:¬t0=t:=λq=>by simp_all
   cases f;refine bV s (u:=.tuple #[D,.bool false]) ?_ (.tup (.cons A (.cons (.bool _) .nil)));simp only[execOp,ho,c,Instr.typeAssert,Sem.run_bind,bZ p,Result.andThen_ok];cases d<;>first|(cases r;done)|simp[j,b]
end
theorem fW (a b:List AV):bJ (a++b)=bJ a++bJ b:=by
 induction a with
 |nil=>rfl
 |cons x a c=>grind [cK,V_]
theorem Av (hs:∀e∈a,e.cells.length=b)(j:l<=a.length):bJ ((a.drop l).take k)=((bJ a).drop (l*b)).take (k*b):=by
 have g:=(j_ l a).symm;have i:(bJ (a.take l)).length=l*b:=by
  grind [eR,List.mem_of_mem_take,Y_,Nat.min_eq_left]
 have f:(bJ a).drop (l*b)=bJ (a.drop l):=by
  grind [fW,List.drop_left']
 rw[f];have d:∀e∈a.drop l,e.cells.length=b:=g_;generalize a.drop l=c at d;rcases Nat.lt_or_ge k c.length with hk|hk
 ·have h:=(j_ k c).symm;have m:(bJ (c.take k)).length=k*b:=by
   grind [eR,List.mem_of_mem_take,Y_,Nat.min_eq_left,Nat.le_of_lt]
  grind [fW,List.take_left']
 rw[l_ hk,l_];rw[eR d];exact Nat.mul_le_mul_right b hk
section
variable {C:Cx}{g:Gh}{U:Nat->Option (List AV)}{h h':AH}{w:World}{tm:Tm}{tmps:Array Value}{v:AV}
theorem IF (s:Sim C g U h w)(M:ig g tm tmps){k:TypeId}{l c:Operand}{P:AX}{x:Nat}{i:TypeInfo}(ho:o.op=.makeSlice t l c)(j:mP C.T t=some k)
  (p:szT C.T k=some x) (V:pq C.T k=some z) (hi:C.T.get k=some i) (W:cX l=some P) (Y:cX c=some L) (Z:0<x)
  (e:Kc (jJ h (dI C.T k) x i.bytes z.cells (ev P tm) (ev L tm))=.val v h'):mi C g U h ((execOp (bE tmps) o).run C.P w) v h':=by
 have e:=GU e;obtain⟨n,X,e⟩:=aC e;obtain⟨m,hm,e⟩:=aC e;obtain⟨H,e⟩:=bj e;cases e;obtain⟨J,B⟩:=fq o_;obtain⟨B,c3⟩:=fq B;have J:=dB J;subst J;have B:n*i.bytes<=140737488355328:=mM B;have F:=cT M W;have G:=cT M Y;obtain⟨⟨k1,h1⟩,R⟩:=ub X;obtain⟨⟨k2,h2⟩,_⟩:=ub hm;rw[h1]at F;rw[h2]at G;obtain⟨d,K,j⟩:=aC j;cases d<;>first|(cases j;done)|skip
 case slice=>
 cases j;obtain⟨i',A,q,I,hr,O,y,_⟩:=lO g V;rw[hi]at q;cases q;obtain⟨i2,d2,r,Q,_⟩:=rJ p;rw[hi]at r;cases r;have u:=hr.cells (rZ y);have a:A.cells.size=x:=by have:=u.length;simp at this;omega
 have zr:=BH u n;have hw:IntKind.i64.wrap (n:Int)=(n:Int):=nQ _ o_ o_;have aa:¬(281474976710656<(i.bytes:Int)*(n:Int)):=by
  have:(i.bytes:Int)*(n:Int)=((n*i.bytes:Nat):Int):=by grind
  rw[this];omega
 obtain⟨g',S,b,ex,T,hv⟩:=wD (agg:=dI C.T k) s k Z n (e_ _) (us:=(Array.range (n*A.cells.size)).map λi=>A.cells[i % A.cells.size]!) (cs:=Bc n z.cells)
  (by grind) (by grind [nW]) (by grind [l_,nW]) (om _ y n)
 refine⟨g',S,_,.inl ?_,ex,T,hv,Low.new _ _⟩;rw[a]at b;by_cases h0:n*x=0
 ·have D:n=0:=by
   grind [Nat.mul_eq_zero]
  subst D;have N:∀f:Nat->Value,(Array.range 0).map f=#[]:=g_;rw[Nat.zero_mul,N]at b;have E:IntKind.i64.wrap 0=0:=rfl;simp[execOp,ho,F.int_inv,G.int_inv,Instr.makeSlice,bZ K,asInt,asIntOf,jT hi,E,dZ p,N,b]
 simp[execOp,ho,F.int_inv,G.int_inv,Instr.makeSlice,bZ K,asInt,asIntOf,jT hi,hw,dZ p,h0,fw hi I,a,b];omega
theorem Mt (h:ig g tm tmps){x:Option Operand}{f:Option AX}(hx:JU x=some f)(e:Qh f tm d b=some n):
  (x=none/\n=d)\/(∃y k,x=some y/\bE tmps y=.int k (n:Int)/\n<=b):=by
 cases x with
 |none=>cases hx;cases e;grind
 |some y=>
  have⟨_,i,hx⟩:=aC (o:=cX y) hx;cases hx;have⟨⟨k,hk⟩,c⟩:=ub e;have r:=cT h i;rw[hk]at r;exact .inr ⟨y,k,rfl,r.int_inv,c⟩
def yg {k:IntKind}{c:BoundsCode}(a:n<=b):(Instr.sliceBound (.int k (n:Int)) b c).run C.P w=.ok n w:=by
 simp[Instr.sliceBound,asIntOf,a]
theorem rE {b:Bool}{cap hb:Nat}(d:(hi=none/\hb=len)\/(∃y k,hi=some y/\bE tmps y=.int k (hb:Int)/\hb<=cap))
  (e:(lo=none/\l=0)\/(∃y k,lo=some y/\bE tmps y=.int k (l:Int)/\l<=hb)) :
  (Instr.sliceBounds b len cap (lo.map (bE tmps)) (hi.map (bE tmps)) none).run C.P w=.ok (l,hb,cap) w:=by
 unfold Instr.sliceBounds;rcases d with⟨rfl,rfl⟩|⟨y,k,rfl,h,c⟩<;>rcases e with⟨rfl,rfl⟩|⟨z,f,rfl,g,a⟩<;>
  simp_all [yg]
def Qm (a:Option Addr)(c l b m:Nat):Value:=.slice (if m=l then a else a.map (·.add (l*c))) (b-l) (m-l)
def Oj {a:Option Addr}{lo hi mx:Option Value}(g:und C.T t=some (.slice e))(h:szT C.T e=some d)
  (c:(Instr.sliceBounds true len b lo hi mx).run C.P w=.ok (l,f,m) w) :
  (Instr.sliceAt t (.slice a len b) lo hi mx).run C.P w=.ok (Qm a d l f m) w:=by
 simp[Instr.sliceAt,bZ g,Instr.slice,c,dZ h,Qm]
theorem cut_list {d:List AV}{a:Nat}(hs:∀e∈d,e.cells.length=f)(q:aZ (bJ d)=true)(n:fO g b c (bJ d))(p:l<=a)(r:a<=d.length)(hm:a<=m):
  (tke (Nat.sub a l) (drp l d)=[]/\Qm (some ⟨b,c,none⟩) f l a m=.slice (if m=l then some ⟨b,c,none⟩ else (some ⟨b,c,none⟩:Option Addr).map (·.add (l*f))) 0 (m-l))\/
  (∃j h,Qm (some ⟨b,c,none⟩) f l a m=.slice (some ⟨j,h,none⟩) (a-l) (m-l)/\(∀e∈tke (Nat.sub a l) (drp l d),e.cells.length=f)/\
   aZ (bJ (tke (Nat.sub a l) (drp l d)))=true/\fO g j h (bJ (tke (Nat.sub a l) (drp l d)))/\(tke (Nat.sub a l) (drp l d)).length=a-l):=by
 rw[lu,iC];have k:Nat.sub a l=a-l:=rfl;by_cases o:a=l
 ·grind [Qm]
 right;have i:¬m=l:=o_;refine⟨b,c+l*f,?_,g_,?_,?_,by simp;omega⟩
 ·unfold Qm;rw[N_ i];simp[nE]
 ·rw[Av hs o_];grind [kX,iH]
 rw[Av hs o_];refine n.sub (l*f) ((a-l)*f) ?_;rw[eR hs];exact Nat.mul_le_mul_right f o_
theorem Ab (e:fZ c a=true)(hs:∀e∈a,e.cells.length=b)(d:a≠[]):b=c:=by
 cases a with
 |nil=>grind
 |cons x a=>rw[<-hs x (.head _)];grind [Od]
theorem Ds (s:Sim C g U h w)(P:ig g tm tmps){V:TypeId}{M:AX}{L J:Option AX}{E:Nat}(ho:o.op=.slice t x lo hi none)
  (hd:und C.T t=some (.slice V)) (S:szT C.T V=some E) (hx:cX x=some M) (O:JU lo=some L) (R:JU hi=some J)
  (q:slLen (ev M tm)=some n) (e2:Qh J tm n n=some i) (e3:Qh L tm 0 i=some l) (e:FG (ev M tm) E l i=some v) :
  mi C g U h ((execOp (bE tmps) o).run C.P w) v h:=by
 have H:=cT P hx;have b1:=Mt P R e2;have b2:=Mt P O e3;have G:i<=n:=o_;have I:l<=i:=o_;have z:∀a f,n<=f->bE tmps x=.slice a n f->(execOp (bE tmps) o).run C.P w=.ok (.value (Qm a E l i f)) w:=by
  intro a f A D;have Z:=rE (C:=C) (w:=w) (tmps:=tmps) (b:=true) (len:=n) (cap:=f) (l:=l) (hb:=i) (lo:=lo) (hi:=hi)
   (by grind) b2
  have:=Oj (a:=a) hd S o_;simp[execOp,ho,D,this]
 generalize ev M tm=a at H e q;cases a<;>first|(cases e;done)|skip
 case nl=>
  cases q;have:i=0:=o_;have:l=0:=o_;subst_vars;cases e;refine bV s (z none 0 o_ H.nils_inv) ?_;exact .nl
 case ls r=>
  have⟨B,e⟩:=bj (c:=fZ E r) e;cases e;have q:some (len r)=some n:=q;rw[bT]at q;cases q;have⟨a,f,D,A,j⟩:=H.lst_inv;refine bV s (z a f A D) ?_;rcases j with rfl|⟨y,b,p,rfl,hs,K,Q⟩
  ·have d:i=0:=by grind
   subst d;have c:l=0:=o_;subst c;exact .lst0
  by_cases u:r=[]
  ·have d:i=0:=by grind
   subst d;have c:l=0:=o_;subst c;exact .lst0
  have:=Ab B hs u;subst this;rcases cut_list (m:=f) hs K Q I G o_ with⟨d,c⟩|⟨b',F,d,c,T,N,q5⟩
  ·rw[d,c];exact .lst0
  rw[d];exact .ls c T o_ o_ N
 case clip r=>
  have⟨B,e⟩:=bj (c:=fZ E r) e;cases e;have q:some (len r)=some n:=q;rw[bT]at q;cases q;have⟨a,D,j⟩:=H.clip_inv;refine bV s (z a _ (e_ _) D) ?_;rcases j with rfl|⟨y,b,p,rfl,hs,K,Q⟩
  ·have d:i=0:=by grind
   subst d;have c:l=0:=o_;subst c;exact .lst0
  by_cases u:r=[]
  ·subst u;have d:i=0:=by grind
   subst d;have c:l=0:=o_;subst c;exact .lst0
  have:=Ab B hs u;subst this;rcases cut_list (m:=r.length) hs K Q I G o_ with⟨d,c⟩|⟨b',F,d,c,T,N,q5⟩
  ·rw[d,c];exact .lst0
  rw[d];exact .ls c T o_ o_ N
 case row k gn y p m=>
  have⟨B,e⟩:=bj (c:=Nat.beq y E) e;cases e;have B:=dB B;subst B;cases q;have⟨Y,a,X,hs,_,D,K⟩:=H.row_inv;refine bV s (z a _ o_ D) ?_;have ea:Nat.add p l=p+l:=rfl;have r:Nat.sub i l=i-l:=rfl;rw[ea,r];unfold Qm;by_cases W:Y.cap-p=l
  ·rw[P_ W];have d:i-l=0:=o_;have c:Y.cap-p-l=0:=o_;rw[d,c];exact .row0 X hs o_
  rw[N_ W];rcases K with rfl|⟨d,c⟩
  ·have:=bR.row (g:=g) (k:=k) (n:=gn) (sz:=y) (off:=p+l) (len:=i-l) X hs o_;grind [Nat.add_mul,Nat.add_assoc,nE]
  omega
theorem Ag (s:Sim C g U h w){a:Nat}{r:Bool×List AV×Nat}{l:Loc}(j:g.ρ k n=some l)(e:kR h k n a=some r):
  h.get k=some (.row n a r.1 r.2.1 r.2.2)/\U k=none/\g.w0.heap.size<=l.block/\OAt C g w k l (.row n a r.1 r.2.1 r.2.2):=by
 have⟨o,ho,e⟩:=aC e;have⟨_,c,e⟩:=aC e;have⟨t,e⟩:=bj e;cases e;have⟨p,m⟩:=fq t;have i:=dB p;have v:=dB m;cases o<;>first|(cases c;done)|skip
 case row x f agg z fz=>
  cases c;subst i;have u:=s.live j;have⟨d,b,_,_⟩:=s.obj k _ ho u;have b:g.ρ k n=some d:=b;grind
end
