/- AbsGo: more changes of the memory: a row that grows, a row that is shut, variables made ahead, what a call lets go (no condition). -/
import Derived.Test.YtocdlbblemjabaaGreatDoorAc
namespace Go.AG
section
variable {C:Cx}{g g':Gh}{U:Nat->Option (List AV)}{h:AH}{w w':World}
theorem Sim.regen (s:Sim C g U h w){k n':Nat}{o o':fD}{l l':Loc}(e:h.get k=some o)(hu:U k=none)(hρ:g.ρ k (lA o)=some l)
  (hg:lA o'=n') (hnone:g.ρ k n'=none) (hblk:∀ b,b≠l'.block->b<w.heap.size->w'.heap[b]?=w.heap[b]?) (hsz:w.heap.size<=w'.heap.size)
  (hfree:l'.block=l.block∨w.heap.size<=l'.block) (ho:OAt C (g.at k n' l') w' k l' o')
  (hF:∀ i v,g.F l'.block i=some v->w'.cell? ⟨l'.block,i,none⟩=some v) (ht:w'.tape=w.tape) (hos:w'.os=w.os) (hout:w'.output=w.output) :
  Ext g (g.at k n' l')/\Sim C (g.at k n' l') U (h.set k o') w':=by
 have ex:Ext g (g.at k n' l'):=g.at_ext l' hnone;obtain⟨l0,h1,h2,h3⟩:=s.obj k o e hu;rw[hρ]at h1;cases h1;have apart:∀ j p m,j≠k->h.get j=some p->g.ρ j (lA p)=some m->m.block<w.heap.size->m.block≠l'.block:=by
  intro j p m hj q r hm;rcases hfree with x|x
  ·rw[x];exact s.sep j k p o m l hj q e r hρ
  ·omega
 have live:∀ j p m,h.get j=some p->g.ρ j (lA p)=some m->U j=none:=by
  intro j p m q r;cases hj:U j with
  |none=>rfl
  |some z=>rw[(s.unb j z hj).2]at r;cases r
 refine⟨ex,?_⟩;constructor
 ·intro b i v q;have q:g.F b i=some v:=q;by_cases hb:b=l'.block
  ·subst hb;exact hF i v q
  ·rw[mn (hblk b hb (s.frz_lt q))];exact s.frz b i v q
 ·intro j p q u;rw[AH.get_set]at q;by_cases hj:j=k
  ·subst hj;rw[P_ rfl]at q;cases q;refine⟨l',by rw[hg];exact g.at_same _ _ _,?_,ho⟩;show g.w0.heap.size<=_;rcases hfree with x|x
   ·rw[x];exact h2
   ·have:=s.sz;omega
  ·rw[N_ hj]at q;obtain⟨m,r1,r2,r3⟩:=s.obj j p q u;have:=apart j p m hj q r1 r3.block_lt;refine⟨m,ex.ρ _ _ _ r1,r2,r3.kw ex (hblk _ this r3.block_lt) (fun _ _ x=>x) fun m' _ x=>?_⟩;rw[Gh.at_other g l' (fun y=>hj y.1)];exact x
 ·intro j p q;rw[AH.get_set]at q;rw[AH.alb];by_cases hj:j=k
  ·subst hj;exact s.lt _ _ e
  ·rw[N_ hj]at q;exact s.lt j p q
 ·intro j z q;obtain⟨q1,q2⟩:=s.unb j z q;have hj:j≠k:=fun x=>by rw[x,hu]at q;cases q
  exact⟨by rw[AH.get_set,N_ hj];exact q1,fun n=>by rw[Gh.at_other g l' (fun y=>hj y.1)];exact q2 n⟩
 ·intro j n m q;rw[AH.alb];by_cases y:j=k/\n=n'
  ·rw[y.1];exact s.lt _ _ e
  ·rw[Gh.at_other g l' y]at q;exact s.rlt j n m q
 ·intro j j' p p' m m' hne q q' r r';rw[AH.get_set]at q q';by_cases hj:j=k
  ·by_cases hj':j'=k
   ·omega
   ·rw[N_ hj']at q';rw[Gh.at_other g l' (fun y=>hj' y.1)]at r';subst hj;rw[P_ rfl]at q;cases q;rw[hg,Gh.at_same]at r;cases r;obtain⟨m2,r1,_,r3⟩:=s.obj j' p' q' (live j' p' m' q' r');rw[r']at r1;cases r1;exact Ne.symm (apart j' p' m' hj' q' r' r3.block_lt)
  ·rw[N_ hj]at q;rw[Gh.at_other g l' (fun y=>hj y.1)]at r;by_cases hj':j'=k
   ·subst hj';rw[P_ rfl]at q';cases q';rw[hg,Gh.at_same]at r';cases r';obtain⟨m2,r1,_,r3⟩:=s.obj j p q (live j p m q r);rw[r]at r1;cases r1;exact apart j p m hj q r r3.block_lt
   ·rw[N_ hj']at q';rw[Gh.at_other g l' (fun y=>hj' y.1)]at r';exact s.sep j j' p p' m m' hne q q' r r'
 ·intro b hb;have hb:b<g.w0.heap.size:=hb;have:b≠l'.block:=by
   rcases hfree with x|x
   ·rw[x];omega
   ·have:=s.sz;omega
  rw[hblk b this (Nat.lt_of_lt_of_le hb s.sz)];exact s.old b hb
 ·show g.w0.heap.size<=_;exact Nat.le_trans s.sz hsz
 ·rw[ht];exact s.tape
 ·rw[hos];exact s.os
 ·rw[hout];exact s.output
 ·exact s.ini
theorem Sim.shut (s:Sim C g U h w){k n sz fz m:Nat}{agg:Bool}{cs:List AV}{l:Loc}{us:Array Value}{t:TypeId}(e:h.get k=some (.row n sz agg cs fz))(hu:U k=none)
  (hρ:g.ρ k n=some l) (hb:w.heap[l.block]?=some (.cells us t (0,0))) :
  Ext g (g.fz l.block l.base ((us.toList.drop l.base).take m))/\Sim C (g.fz l.block l.base ((us.toList.drop l.base).take m)) U (h.set k (.row n sz agg cs (max fz m))) w:=by
 obtain⟨l0,h1,h2,h3⟩:=s.obj k _ e hu;have hρ':g.ρ k (lA (.row n sz agg cs fz))=some l:=hρ;rw[hρ']at h1;cases h1;obtain⟨hs,hp,us',t',e1,q1,q2,hv,ha,hn,hr⟩:=h3;rw[hb]at e1;cases e1;have cell:∀ i,w.cell? ⟨l.block,i,none⟩=us.toList[i]?:=fun i=>by rw[cell_of_row _ _ _ us t (0,0) hb];simp
 obtain⟨vs,hvs⟩:∃ vs,vs=(us.toList.drop l.base).take m:=⟨_,rfl⟩
 rw[<- hvs];have vlen:vs.length<=m:=by rw[hvs];simp;omega
 have val:∀ i,l.base<=i->i<l.base+vs.length->vs[i-l.base]?=us.toList[i]?:=by
  intro i hi1 hi2;rw[hvs,List.getElem?_take,P_ o_,List.getElem?_drop];congr 1;omega
 have Fat:∀ b i,(g.fz l.block l.base vs).F b i=if b=l.block/\l.base<=i/\i<l.base+vs.length then vs[i-l.base]? else g.F b i:=fun _ _=>rfl
 have ex:Ext g (g.fz l.block l.base vs):=by
  refine⟨fun b i v q=>?_,fun _ _ _ q=>q,rfl,fun b i v hb' q=>by rw[Fat,N_ (fun x=>by have:=x.1;omega)]at q;exact q⟩;rw[Fat];split
  ·rename_i x;obtain⟨rfl,x1,x2⟩:=x;rw[val i x1 x2,<- cell];exact s.frz _ i v q
  ·exact q
 have nb:∀ b,b≠l.block->∀ i,(g.fz l.block l.base vs).F b i=g.F b i:=fun b hb' i=>by rw[Fat,N_ (fun x=>hb' x.1)]
 refine⟨ex,?_⟩;constructor
 ·intro b i v q;rw[Fat]at q;split at q
  ·rename_i x;obtain⟨rfl,x1,x2⟩:=x;rw[val i x1 x2]at q;rw[cell];exact q
  ·exact s.frz b i v q
 ·intro j p q u;rw[AH.get_set]at q;by_cases hj:j=k
  ·subst hj;rw[P_ rfl]at q;cases q;refine⟨l,hρ,h2,hs,hp,us,t,hb,q1,q2,hv.mono ex,ha,fun i v y=>?_,hr⟩;rw[Fat]at y;have:=Nat.le_max_left fz m;have:=Nat.le_max_right fz m;split at y
   ·rename_i x;omega
   ·have:=hn i v y;omega
  ·rw[N_ hj]at q;obtain⟨m',r1,r2,r3⟩:=s.obj j p q u;have:=s.sep j k p _ m' l hj q e r1 hρ;exact⟨m',r1,r2,r3.kw ex rfl (fun i v x=>by rw[nb _ this]at x;exact x) (fun _ _ x=>x)⟩
 ·intro j p q;rw[AH.get_set]at q;rw[AH.alb];by_cases hj:j=k
  ·subst hj;exact s.lt _ _ e
  ·rw[N_ hj]at q;exact s.lt j p q
 ·intro j z q;obtain⟨y1,y2⟩:=s.unb j z q;have hj:j≠k:=fun x=>by rw[x,hu]at q;cases q
  exact⟨by rw[AH.get_set,N_ hj];exact y1,y2⟩
 ·intro j n' l' q;rw[AH.alb];exact s.rlt j n' l' q
 ·intro j j' p p' m' m'' hne q q' r r';rw[AH.get_set]at q q';by_cases hj:j=k
  ·by_cases hj':j'=k
   ·omega
   ·rw[N_ hj']at q';subst hj;rw[P_ rfl]at q;cases q;exact s.sep j j' _ p' m' m'' hne e q' r r'
  ·rw[N_ hj]at q;by_cases hj':j'=k
   ·subst hj';rw[P_ rfl]at q';cases q';exact s.sep j j' p _ m' m'' hne q e r r'
   ·rw[N_ hj']at q';exact s.sep j j' p p' m' m'' hne q q' r r'
 ·exact s.old
 ·exact s.sz
 ·exact s.tape
 ·exact s.os
 ·exact s.output
 ·exact s.ini
theorem Sim.promise (s:Sim C g U h w)(z:List AV):Sim C g (fun k=>if k=h.z then some z else U k) (h.new (.box z)) w:=by
 constructor
 ·exact s.frz
 ·intro k o e u;by_cases q:k=h.z
  ·simp[q]at u
  ·simp only[q,if_false]at u;rw[AH.get_new,N_ q]at e;exact s.obj k o e u
 ·intro k o e;rw[AH.get_new]at e;rw[AH.ala];by_cases q:k=h.z
  ·omega
  ·rw[N_ q]at e;have:=s.lt k o e;omega
 ·intro k z' e;by_cases q:k=h.z
  ·subst q;simp only[if_true]at e;cases e;exact⟨by rw[AH.get_new,P_ rfl],s.rfresh⟩
  ·simp only[q,if_false]at e;obtain⟨h1,h2⟩:=s.unb k z' e;exact⟨by rw[AH.get_new,N_ q];exact h1,h2⟩
 ·intro k n l e;rw[AH.ala];have:=s.rlt k n l e;omega
 ·intro k k' o o' l l' hne e e' r r';rw[AH.get_new]at e e';by_cases q:k=h.z
  ·subst q;rw[s.rfresh]at r;cases r
  ·by_cases q':k'=h.z
   ·subst q';rw[s.rfresh]at r';cases r'
   ·rw[N_ q]at e;rw[N_ q']at e';exact s.sep k k' o o' l l' hne e e' r r'
 ·exact s.old
 ·exact s.sz
 ·exact s.tape
 ·exact s.os
 ·exact s.output
 ·exact s.ini
theorem Sim.birth (s:Sim C g U h w){k:Nat}{z:List AV}(e:U k=some z)(us:Array Value)(t:TypeId)(hv:aY g z us.toList)(ha:aR z=true):
  Ext g (g.at k 0 ⟨w.heap.size,0,0,0⟩)/\Sim C (g.at k 0 ⟨w.heap.size,0,0,0⟩) (fun j=>if j=k then none else U j) h (w.alloc (.cells us t (0,0))):=by
 obtain⟨hk,hnone⟩:=s.unb k z e;have ex:Ext g (g.at k 0 ⟨w.heap.size,0,0,0⟩):=g.at_ext _ (hnone 0);have live:∀ j p m,h.get j=some p->g.ρ j (lA p)=some m->U j=none:=by
  intro j p m q r;cases hj:U j with
  |none=>rfl
  |some z=>rw[(s.unb j z hj).2]at r;cases r
 refine⟨ex,?_⟩;constructor
 ·intro b o v q;have q:g.F b o=some v:=q;rw[World.cell?_alloc_lt _ _ _ (s.frz_lt q)];exact s.frz b o v q
 ·intro j p q u;by_cases hj:j=k
  ·subst hj;rw[hk]at q;cases q;refine⟨_,g.at_same _ _ _,s.sz,rfl,us,t,heap_alloc_new _ _,hv.mono ex,ha,fun o v y=>?_⟩;have y:g.F w.heap.size o=some v:=y;exact absurd (s.frz_lt y) (Nat.lt_irrefl _)
  ·simp only[hj,if_false]at u;obtain⟨l,r1,r2,r3⟩:=s.obj j p q u;refine⟨l,ex.ρ _ _ _ r1,r2,r3.kw ex (fB r3.block_lt) (fun _ _ x=>x) fun m _ x=>?_⟩;rw[Gh.at_other g _ (fun y=>hj y.1)];exact x
 ·exact s.lt
 ·intro j z' q;by_cases hj:j=k
  ·simp[hj]at q
  ·simp only[hj,if_false]at q;obtain⟨h1,h2⟩:=s.unb j z' q;exact⟨h1,fun n=>by rw[Gh.at_other g _ (fun y=>hj y.1)];exact h2 n⟩
 ·intro j n l q;by_cases y:j=k/\n=0
  ·rw[y.1];exact s.lt _ _ hk
  ·rw[Gh.at_other g _ y]at q;exact s.rlt j n l q
 ·intro j j' p p' m m' hne q q' r r';by_cases hj:j=k
  ·by_cases hj':j'=k
   ·omega
   ·rw[Gh.at_other g _ (fun y=>hj' y.1)]at r';subst hj;rw[hk]at q;cases q;have r:(g.at j 0 ⟨w.heap.size,0,0,0⟩).ρ j 0=some m:=r;rw[Gh.at_same]at r;cases r;obtain⟨m2,r1,_,r3⟩:=s.obj j' p' q' (live j' p' m' q' r');rw[r']at r1;cases r1;have:=r3.block_lt;show w.heap.size≠m'.block;omega
  ·rw[Gh.at_other g _ (fun y=>hj y.1)]at r;by_cases hj':j'=k
   ·subst hj';rw[hk]at q';cases q';have r':(g.at j' 0 ⟨w.heap.size,0,0,0⟩).ρ j' 0=some m':=r';rw[Gh.at_same]at r';cases r';obtain⟨m2,r1,_,r3⟩:=s.obj j p q (live j p m q r);rw[r]at r1;cases r1;have:=r3.block_lt;show m.block≠w.heap.size;omega
   ·rw[Gh.at_other g _ (fun y=>hj' y.1)]at r';exact s.sep j j' p p' m m' hne q q' r r'
 ·intro b hb;have hb:b<g.w0.heap.size:=hb;rw[fB (Nat.lt_of_lt_of_le hb s.sz)];exact s.old b hb
 ·have:=s.sz;show g.w0.heap.size<=_;rw[World.size_alloc];omega
 ·exact s.tape
 ·exact s.os
 ·exact s.output
 ·exact s.ini
structure nX (n:Nat)(U U':Nat->Option (List AV)):Prop where
 kw:∀ k,k<n->U' k=U k
theorem nX.refl (n:Nat)(U:Nat->Option (List AV)):nX n U U:=⟨fun _ _=>rfl⟩
theorem nX.trans {n m:Nat}{U V W:Nat->Option (List AV)}(h:nX n U V)(k:nX m V W)(hnm:n<=m):nX n U W:=
 ⟨fun j hj=>(k.kw j (Nat.lt_of_lt_of_le hj hnm)).trans (h.kw j hj)⟩
def Co (g:Gh)(h:AH)(base b:Nat):Prop:=b<g.w0.heap.size∨∃ k o l,k<base/\h.get k=some o/\g.ρ k (lA o)=some l/\l.block=b
open Classical in
noncomputable def Gh.leave (g:Gh)(h:AH)(base:Nat)(w:World):Gh:=
 {g with F:=fun b o=>if Co g h base b then g.F b o else w.cell? ⟨b,o,none⟩}
theorem Gh.leave_owned {base b:Nat}(x:Co g h base b)(o:Nat):(g.leave h base w).F b o=g.F b o:=by
 simp only[Gh.leave,x,if_true]
theorem Gh.leave_free {base b:Nat}(x:¬ Co g h base b)(o:Nat):(g.leave h base w).F b o=w.cell? ⟨b,o,none⟩:=by
 simp only[Gh.leave,x,if_false]
theorem Sim.leave_ext (s:Sim C g U h w)(base:Nat):Ext g (g.leave h base w):=by
 refine⟨fun b o v e=>?_,fun _ _ _ e=>e,rfl,fun b o v hb e=>by rw[Gh.leave_owned (.inl hb)]at e;exact e⟩;by_cases x:Co g h base b
 ·rw[Gh.leave_owned x];exact e
 ·rw[Gh.leave_free x];exact s.frz b o v e
theorem Sim.leave (s:Sim C g U h w){h0:AH}(hn:h0.z<=h.z)(low:Nat)(hlt:∀ k o,h0.get k=some o->k<h0.z)(hsame:∀ k,k<h0.z->h.get k=h0.get k):
  Sim C (g.leave h h0.z w) (fun k=>if k<h0.z then U k else none) ⟨h.z,low,h0.objs⟩ w:=by
 have get0:∀ k o,(⟨h.z,low,h0.objs⟩:AH).get k=some o->k<h0.z/\h.get k=some o:=by
  intro k o e;have e:h0.get k=some o:=e;exact⟨hlt k o e,by rw[hsame k (hlt k o e)];exact e⟩
 constructor
 ·intro b o v e;by_cases x:Co g h h0.z b
  ·rw[Gh.leave_owned x]at e;exact s.frz b o v e
  ·rw[Gh.leave_free x]at e;exact e
 ·intro k o e u;obtain⟨h1,h2⟩:=get0 k o e;simp only[h1,if_true]at u;obtain⟨l,r1,r2,r3⟩:=s.obj k o h2 u;refine⟨l,r1,r2,r3.kw (s.leave_ext _) rfl (fun i v x=>?_) (fun _ _ x=>x)⟩;rw[Gh.leave_owned (.inr ⟨k,o,l,h1,h2,r1,rfl⟩)]at x;exact x
 ·intro k o e;have:=(get0 k o e).1;show k<h.z;omega
 ·intro k z e;by_cases q:k<h0.z
  ·simp only[q,if_true]at e;obtain⟨h1,h2⟩:=s.unb k z e;exact⟨(hsame k q).symm.trans h1,h2⟩
  ·simp[q]at e
 ·exact s.rlt
 ·intro k k' o o' l l' hne e e' r r';exact s.sep k k' o o' l l' hne (get0 k o e).2 (get0 k' o' e').2 r r'
 ·exact s.old
 ·exact s.sz
 ·exact s.tape
 ·exact s.os
 ·exact s.output
 ·exact s.ini
end
section types
variable {C:Cx}{w:World}
theorem WW {t:TypeId}{d:TypeDesc}(h:und C.T t=some d):C.P.underlying t=some d:=by
 obtain⟨i,hi,h⟩:=aA h;have hp:=C.ok t i hi;unfold Program.underlying;rw[hp];obtain⟨desc,_,_,_,_,_,_,_,_,_⟩:=i;cases desc with
 |named n u=>
  obtain⟨j,hj,h⟩:=aA (o:=C.T.get u) h;cases h;simp[C.ok u j hj]
 |_=>cases h;rfl
theorem acV {t:TypeId}{i:TypeInfo}(h:C.T.get t=some i):C.P.info? t=some i:=C.ok t i h
theorem bj {t:TypeId}{d:TypeDesc}(h:und C.T t=some d):(underlying t).run C.P w=.ok d w:=by
 simp[underlying,WW h]
theorem im {t:TypeId}{i:TypeInfo}(h:C.T.get t=some i):(typeInfo t).run C.P w=.ok i w:=by
 simp[typeInfo,acV h]
theorem mB {t:TypeId}{n:Nat}(h:szT C.T t=some n):∃ i d,C.T.get t=some i/\i.size=n/\und C.T t=some d:=by
 obtain⟨i,hi,h⟩:=aA h;obtain⟨d,hd,h⟩:=aA h;cases h;exact⟨i,d,hi,rfl,by unfold und;rw[WJ hi];exact hd⟩
theorem bY {t:TypeId}{n:Nat}(h:szT C.T t=some n):(sizeOf t).run C.P w=.ok n w:=by
 obtain⟨i,d,hi,rfl,_⟩:=mB h;simp[sizeOf,im hi]
theorem jH {t:TypeId}{d:TypeDesc}(h:und C.T t=some d):(isAgg t).run C.P w=.ok (cm C.T t) w:=by
 have e:cm C.T t=aggD d:=by unfold cm;rw[h]
 rw[e];simp only[isAgg,Sem.run_bind,bj h,Result.andThen_ok];cases d<;>rfl
theorem yt {t:TypeId}{n:Nat}(h:szT C.T t=some n):(isAgg t).run C.P w=.ok (cm C.T t) w:=by
 obtain⟨_,d,_,_,hd⟩:=mB h;exact jH hd
mutual
theorem vL (g:Gh):∀ {v:Value} {a:AV},ofV v=some a->bA g a v
 |.bool b,a,h=>by cases h;exact .bool b
 |.int k n,a,h=>by cases h;exact .int k n
 |.float _ _,a,h=>by cases h
 |.complex _ _ _,a,h=>by cases h
 |.string s,a,h=>by cases h;exact .str s
 |.pointer none,a,h=>by cases h;exact .nilp
 |.pointer (some _),a,h=>by cases h
 |.slice none l c,a,h=>by
  have h:(bif Nat.beq l 0&&Nat.beq c 0 then some AV.nl else none)=some a:=h;obtain⟨h1,h2⟩:=aN h;obtain⟨h3,h4⟩:=cR h1;cases h2;rw[beq_eq h3,beq_eq h4];exact .nl
 |.slice (some _) l c,a,h=>by cases h
 |.map none,a,h=>by cases h;exact .nilm
 |.map (some _),a,h=>by cases h
 |.chan _,a,h=>by cases h
 |.func f x y,a,h=>by
  have h:ofFn f x y=some a:=h;cases f with
  |func f=>
   have h:(bif Nat.beq x.toList.length 0&&Nat.beq y.toList.length 0 then some (AV.fn f [] []) else none)=some a:=h;obtain⟨h1,h2⟩:=aN h;obtain⟨h3,h4⟩:=cR h1;cases h2;obtain⟨x⟩:=x;obtain⟨y⟩:=y;have h3:=List.length_eq_zero_iff.1 (beq_eq h3);have h4:=List.length_eq_zero_iff.1 (beq_eq h4);simp only at h3 h4;subst h3 h4;exact .fn .nil .nil
  |_=>cases h
 |.nilFunc,a,h=>by cases h;exact .nilf
 |.iface t v,a,h=>by
  have h:aD (ofV v) (fun a=>some (AV.ifc t a))=some a:=h;obtain⟨b,hb,h⟩:=aA h;cases h;exact .ifc (vL g hb)
 |.nilIface,a,h=>by cases h;exact .nili
 |.agg ⟨cs⟩,a,h=>by
  have h:aD (TW cs) (fun l=>bif aR l then some (AV.agg l) else none)=some a:=h;obtain⟨b,hb,h⟩:=aA h;obtain⟨hc,h⟩:=aN h;cases h;exact .agg hc (wy g hb)
 |.tuple ⟨cs⟩,a,h=>by
  have h:aD (TW cs) (fun l=>some (AV.tup l))=some a:=h;obtain⟨b,hb,h⟩:=aA h;cases h;exact .tup (wy g hb)
theorem wy (g:Gh):∀ {v:List Value} {a:List AV},TW v=some a->aY g a v
 |[],a,h=>by cases h;exact .nil
 |x::l,a,h=>by
  have h:aD (ofV x) (fun a=>aD (TW l) fun r=>some (a::r))=some a:=h;obtain⟨b,hb,h⟩:=aA h;obtain⟨r,hr,h⟩:=aA h;cases h;exact .cons (vL g hb) (wy g hr)
end
theorem iG (g:Gh){t:TypeId}{v:AV}(h:jN C.T t=some v):
  ∃ i z,C.T.get t=some i/\i.zero=some z/\bA g v z/\v.cells.length=i.size/\aR v.cells=true/\v.isAgg=cm C.T t:=by
 obtain⟨i,hi,h⟩:=aA h;obtain⟨z,hz,h⟩:=aA h;obtain⟨v',hv,h⟩:=aA h;obtain⟨hc,h⟩:=aN h;cases h;obtain⟨h1,h3⟩:=cR hc;obtain⟨h1,h2⟩:=cR h1;exact⟨i,z,hi,hz,vL g hv,beq_eq h1,h2,wi h3⟩
theorem cZ {t:TypeId}{i:TypeInfo}{z:Value}(h:C.T.get t=some i)(hz:i.zero=some z):(zeroValue t).run C.P w=.ok z w:=by
 simp[zeroValue,im h,hz]
end types
section mem
variable {C:Cx}{g:Gh}{w:World}
theorem iM (b off i:Nat):(⟨b,off,none⟩:Addr).add i=⟨b,off+i,none⟩:=by
 unfold Addr.add;split
 ·rename_i h;subst h;rfl
 ·rfl
def wX (agg:Bool)(ws:List Value):Value:=if agg then .agg ⟨ws⟩ else ws.headD undef
theorem lQ {b off:Nat}{us:List Value}(h:∀ i u,us[i]?=some u->w.cell? ⟨b,off+i,none⟩=some u):
  (loadCells ⟨b,off,none⟩ us.length).run C.P w=.ok ⟨us⟩ w:=by
 have:=run_loadCells_list (P:=C.P) (w:=w) ⟨b,off,none⟩ us (fun j v e=>by rw[iM];exact h j v e);simpa using this
theorem uq {t:TypeId}{b off:Nat}{us:List Value}(hs:szT C.T t=some us.length)(h1:cm C.T t=false->us.length=1)
  (h:∀ i u,us[i]?=some u->w.cell? ⟨b,off+i,none⟩=some u):(loadVar t ⟨b,off,none⟩).run C.P w=.ok (wX (cm C.T t) us) w:=by
 simp only[loadVar,Sem.run_bind,yt hs,Result.andThen_ok];cases ha:cm C.T t with
 |true=>
  simp only[if_true,Sem.run_bind,bY hs,Result.andThen_ok,lQ h,Sem.run_pure,wX]
 |false=>
  have hl:=h1 ha
  match us,hl with
  |[u],_=>
   have:=h 0 u rfl;simp only[Nat.add_zero]at this;simp[wX,this]
theorem wG {agg:Bool}{sz off:Nat}{cs:List AV}{us:List Value}{v:AV}(h:rj agg sz off cs=some v)(hv:aY g cs us)(ha:aR cs=true):
  ((us.drop off).take sz).length=sz/\bA g v (wX agg ((us.drop off).take sz))/\v.cells.length=sz/\v.isAgg=agg/\(agg=false->sz=1)/\aR v.cells=true/\off+sz<=cs.length/\v.cells=(cs.drop off).take sz:=by
 have hl:=hv.length;cases agg with
 |true=>
  have h:cond (Nat.ble (Nat.add off sz) (len cs)) (some (AV.agg (tke sz (drp off cs)))) none=some v:=h;obtain⟨h1,h2⟩:=aN h;have h1:=eE h1;rw[bH]at h1;have h1:off+sz<=cs.length:=h1;cases h2;rw[iB,fa];have hc:aR ((cs.drop off).take sz)=true:=by
   rw[dc]at ha ⊢;exact fun a hm=>ha a (List.mem_of_mem_drop (List.mem_of_mem_take hm))
  refine⟨by simp;omega,.agg hc ((hv.drop off).take sz),by simp[AV.cells];omega,rfl,(fun x=>by cases x),hc,h1,rfl⟩
 |false=>
  have h:cond (Nat.beq sz 1) (pT off cs) none=some v:=h;obtain⟨h1,h2⟩:=aN h;have h1:=beq_eq h1;subst h1;rw[ie]at h2;obtain⟨u,hu,hr⟩:=hv.get h2;have hi:off<us.length:=by
   rcases Nat.lt_or_ge off us.length with x|x
   ·exact x
   ·rw[List.getElem?_eq_none x]at hu;cases hu
  have hi':off<cs.length:=o_;have e:(us.drop off).take 1=[u]:=by
   rw[a_ hi]at hu;cases hu;rw[List.drop_eq_getElem_cons hi];rfl
  have e':(cs.drop off).take 1=[v]:=by
   rw[a_ hi']at h2;cases h2;rw[List.drop_eq_getElem_cons hi'];rfl
  have hc:v.isCell=true:=(dc cs).1 ha v (m_ h2);have hcells:v.cells=[v]:=by cases v<;>first|rfl|(simp[AV.isCell]at hc)
  have hagg:v.isAgg=false:=by cases v<;>first|rfl|(simp[AV.isCell]at hc)
  refine⟨by rw[e];rfl,by rw[e];exact hr,by rw[hcells];rfl,hagg,fun _=>rfl,by rw[hcells,bX,hc];rfl,o_,by rw[hcells,e']⟩
theorem BW {b o:Nat}{us:Array Value}{t:TypeId}{v:Value}(e:w.heap[b]?=some (.cells us t (0,0))):
  w.setCell ⟨b,o,none⟩ v=setBlk w b (.cells (us.setIfInBounds o v) t (0,0)):=by
 have hb:b<w.heap.size:=(Array.getElem?_eq_some_iff.1 e).1;have hv:w.heap[b]=.cells us t (0,0):=(Array.getElem?_eq_some_iff.1 e).2;unfold World.setCell setBlk;congr 1;apply Array.ext_getElem?;intro i;by_cases hi:i=b
 ·subst hi;rw[Array.getElem?_modify,P_ rfl,e];simp[hb]
 ·rw[Array.getElem?_setIfInBounds_ne (Ne.symm hi),Array.getElem?_modify,N_ (fun x=>hi x.symm)]
theorem zx {b:Nat}{x y:Obj}: setBlk (setBlk w b x) b y=setBlk w b y:=by
 unfold setBlk;simp only[Array.setIfInBounds_setIfInBounds]
theorem Ra {b:Nat}{x:Obj}(e:w.heap[b]?=some x):setBlk w b x=w:=by
 have hb:b<w.heap.size:=(Array.getElem?_eq_some_iff.1 e).1;have hv:w.heap[b]=x:=(Array.getElem?_eq_some_iff.1 e).2;have:w.heap.setIfInBounds b x=w.heap:=by
  apply Array.ext_getElem?;intro i;by_cases hi:i=b
  ·subst hi;simp[hb,hv]
  ·rw[Array.getElem?_setIfInBounds_ne (Ne.symm hi)]
 unfold setBlk;rw[this]
theorem yn {α:Type}(o:Nat)(v:α)(vs:List α):∀ us:List α,o<us.length->setR (o+1) vs (us.set o v)=setR o (v::vs) us:=by
 induction o with
 |zero=>intro us h;cases us with
  |nil=>simp at h
  |cons u us=>rfl
 |succ o ih=>intro us h;cases us with
  |nil=>simp at h
  |cons u us=>
   simp only[List.set_cons_succ];rw[gV,gV,ih us (by simpa using h)]
theorem yo {α:Type}(o:Nat):∀ us:List α,setR o [] us=us:=by
 induction o with
 |zero=>intro us;rfl
 |succ o ih=>intro us;cases us with
  |nil=>rfl
  |cons u us=>rw[gV,ih]
theorem fE {b off:Nat}{t:TypeId}: ∀ (vs:List Value) (i:Nat) (w:World) (us:Array Value),w.heap[b]?=some (.cells us t (0,0))->
  off+i+vs.length<=us.size->(∀ v∈vs,v.oneCell'=true)->
  (storeCells ⟨b,off,none⟩ vs i).run C.P w=.ok () (setBlk w b (.cells ⟨setR (off+i) vs us.toList⟩ t (0,0)))
 |[],i,w,us,e,_,_=>by
  rw[yo];show Result.ok () w=_;rw[Ra e]
 |v::vs,i,w,us,e,hl,hv=>by
  simp only[List.length_cons]at hl;have hi:off+i<us.size:=o_;have hcell:w.cell? ⟨b,off+i,none⟩=some us[off+i]:=by rw[cell_of_row _ _ _ us t (0,0) e];simp[hi]
  have hfz:w.frozen? ⟨b,off+i,none⟩=false:=frozen_of_row _ _ _ us t e;have e':(setBlk w b (.cells (us.setIfInBounds (off+i) v) t (0,0))).heap[b]?=some (.cells (us.setIfInBounds (off+i) v) t (0,0)):=
   dZ (Array.getElem?_eq_some_iff.1 e).1
  have ih:=fE (off:=off) vs (i+1) _ _ e' (by simp only[Array.size_setIfInBounds];omega) (fun x hx=>hv x (.tail _ hx));simp only[storeCells,Sem.run_bind,iM,run_store _ _ _ _ _ (hv v (.head _)),hcell,hfz,Bool.false_eq_true,if_false,Result.andThen_ok];rw[BW e,ih,zx];congr 4;have:=yn (off+i) v vs us.toList (by simpa using hi);rw[<- this,Nat.add_assoc];congr 1;simp
end mem
def alc (tmps:Array Value):Operand->Value
 |.tmp t=>tmps.getD t undef
 |.const v=>v
 |.global g=>.pointer (some ⟨g,0,none⟩)
 |.func f=>.func (.func f) #[] #[]
theorem CF (fr:Frame):fr.eval=alc fr.tmps:=by
 funext x;cases x<;>rfl
def gG (C:Cx)(g:Gh)(U:Nat->Option (List AV))(h:AH)(r:Result Next)(v:AV)(h':AH):Prop:=
 ∃ g' w' u,(r=.ok (.value u) w'∨(r=.ok .skip w'/\u=undef))/\Ext g g'/\Sim C g' U h' w'/\bA g' v u/\Low h h'
section
variable {C:Cx}{g:Gh}{U:Nat->Option (List AV)}{h h':AH}{w:World}{tm:Tm}{tmps:Array Value}{v:AV}
theorem bc {r:Result Next}{u:Value}(s:Sim C g U h w)(hr:r=.ok (.value u) w)(hv:bA g v u):gG C g U h r v h:=
 ⟨g,w,u,.inl hr,.refl g,s,hv,.refl h⟩
theorem bQ (ht:ep g tm tmps){x:Operand}{ax:AX}(e:cX x=some ax):bA g (ev ax tm) (alc tmps x):=by
 cases x with
 |tmp t=>cases e;exact ht t
 |const v=>
  have e:aD (ofV v) (fun a=>some (AX.c a))=some ax:=e;obtain⟨a,ha,e⟩:=aA e;cases e;exact vL g ha
 |global g=>cases e
 |func f=>cases e;exact .fn .nil .nil
theorem nV (ht:ep g tm tmps):∀ {l:List Operand} {r:List AX},hX cX l=some r->aY g (evs r tm) (l.map (alc tmps))
 |[],r,e=>by cases e;exact .nil
 |x::l,r,e=>by
  obtain⟨b,r',hb,hr,rfl⟩:=bS e;exact .cons (bQ ht hb) (nV ht hr)
theorem dx {r:Option AV}{h1:AH}(e:okV r h=.val v h1):r=some v/\h1=h:=by
 cases r with
 |none=>cases e
 |some x=>cases e;exact⟨rfl,rfl⟩
theorem Be {r:Option AH}{h1:AH}(e:okH r=.val v h1):r=some h1/\v=.tup []:=by
 cases r with
 |none=>cases e
 |some x=>cases e;exact⟨rfl,rfl⟩
theorem oO {r:Option (AV×AH)}{h1:AH}(e:qG r=.val v h1):r=some (v,h1):=by
 cases r with
 |none=>cases e
 |some x=>cases e;rfl
theorem afm (s:Sim C g U h w)(ht:ep g tm tmps){o:Oper}{x:Operand}{ax:AX}(ho:o.op=.move x∨o.op=.assign x)(hx:cX x=some ax):
  gG C g U h ((execOp (alc tmps) o).run C.P w) (ev ax tm) h:=by
 refine bc s ?_ (bQ ht hx);rcases ho with ho|ho<;>simp[execOp,ho]
theorem qy {a:AV}{b:Bool}(e:CW a=some b):a=.bool b:=by cases a<;>first|(cases e;done)|(cases e;rfl)
theorem gY {a:AV}{p:IntKind×Int}(e:zX a=some p):a=.int p.1 p.2:=by cases a<;>first|(cases e;done)|(cases e;rfl)
theorem kh {a:AV}{s:ByteArray}(e:zf a=some s):a=.str s:=by cases a<;>first|(cases e;done)|(cases e;rfl)
theorem jY {a:AV}{l:List AV}(e:Hz a=some l):a=.agg l:=by cases a<;>first|(cases e;done)|(cases e;rfl)
theorem QE {a:AV}{l:List AV}(e:TV a=some l):a=.tup l:=by cases a<;>first|(cases e;done)|(cases e;rfl)
theorem Gd {a:AV}{k:Nat}(e:afp a=some k):a=.map k:=by cases a<;>first|(cases e;done)|(cases e;rfl)
theorem oZ {a:AV}{n:Nat}(e:adK a=some n):∃ k,a=.int k (n:Int):=by
 cases a<;>first|(cases e;done)|skip
 case int k m=>cases m<;>cases e;exact⟨k,rfl⟩
theorem aca (s:Sim C g U h w)(ht:ep g tm tmps){o:Oper}{x y z:Operand}{ax ay az:AX}(ho:o.op=.pick x y z)(hx:cX x=some ax)(hy:cX y=some ay)
  (hz:cX z=some az) {h':AH} (e:oe (ev ax tm) h (ev ay tm) (ev az tm)=.val v h'):gG C g U h ((execOp (alc tmps) o).run C.P w) v h':=by
 have rx:=bQ ht hx;have ry:=bQ ht hy;have rz:=bQ ht hz;generalize ev ax tm=a at rx e;cases a<;>first|(cases e;done)|skip
 case bool c=>
  cases e;refine bc (u:=if c then alc tmps y else alc tmps z) s ?_ ?_
  ·simp[execOp,ho,rx.bool_inv,asBool]
  ·cases c
   ·exact rz
   ·exact ry
theorem yD (s:Sim C g U h w){z:Value}{zs:List AV}(t:TypeId)(hz:aY g zs z.cells.toList)(ha:aR zs=true):
  ∃ g' w',(newVar t z).run C.P w=.ok ⟨w.heap.size,0,none⟩ w'/\Ext g g'/\Sim C g' U (h.new (.box zs)) w'/\bA g' (.ptr h.z 0 0) (.pointer (some ⟨w.heap.size,0,none⟩)):=by
 obtain⟨ex,s'⟩:=s.alloc (.box zs) (.cells z.cells t) ⟨w.heap.size,0,0,0⟩ rfl rfl
  ⟨rfl,z.cells,t,heap_alloc_new _ _,hz.mono (g.at_ext _ (s.rfresh 0)),ha,fun o v q=>by
   have q:g.F w.heap.size o=some v:=q;exact absurd (s.frz_lt q) (Nat.lt_irrefl _)⟩
 refine⟨_,_,?_,ex,s',?_⟩
 ·simp[newVar,newRow]
 ·exact .ptr (l:=⟨w.heap.size,0,0,0⟩) (g.at_same _ _ _)
theorem aid (s:Sim C g U h w){o:Oper}{t:TypeId}{z:AV}(ho:o.op=.alloc t)(hz:jN C.T t=some z):
  gG C g U h ((execOp (alc tmps) o).run C.P w) (.ptr h.z 0 0) (h.new (.box z.cells)):=by
 obtain⟨i,zv,hi,hzv,hr,_,hc,_⟩:=iG g hz;have hl:z.lies=true:=by
  cases z<;>first|rfl|(simp[AV.cells,bX,AV.isCell]at hc)
 obtain⟨g',w',hrun,ex,s',hv⟩:=yD s t (hr.cells hl) hc;refine⟨g',w',_,.inl ?_,ex,s',hv,Low.new _ _⟩;simp[execOp,ho,Instr.alloc,cZ hi hzv,hrun]
theorem ail (s:Sim C g U h w)(ht:ep g tm tmps){o:Oper}{t:TypeId}{x:Operand}{ax:AX}{n:Nat}(ho:o.op=.box t x)(hx:cX x=some ax)
  {h':AH} (e:dB h n (ev ax tm)=.val v h'):gG C g U h ((execOp (alc tmps) o).run C.P w) v h':=by
 have rx:=bQ ht hx;unfold dB at e;cases hc:(and (Nat.beq (len (ev ax tm).cells) n) (ev ax tm).lies) with
 |false=>rw[hc]at e;cases e
 |true=>
  rw[hc]at e;obtain⟨_,hl⟩:=cR hc;cases e;obtain⟨g',w',hrun,ex,s',hv⟩:=yD s t (rx.cells hl) (rx.fine hl);refine⟨g',w',_,.inl ?_,ex,s',hv,Low.new _ _⟩;simp[execOp,ho,Instr.box,hrun]
end
