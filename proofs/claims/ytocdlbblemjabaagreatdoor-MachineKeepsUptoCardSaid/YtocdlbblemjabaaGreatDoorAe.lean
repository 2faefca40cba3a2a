/- AbsGo: one operation of the evaluator's is one of the model's: literals, loads, stores (no condition). -/
import Derived.Test.YtocdlbblemjabaaGreatDoorAd
namespace Go.AG
section lists
variable {g:Gh}
theorem xG (vs:List AV):∀ cs:List AV,aR vs=true->aR cs=true->aR (over vs cs)=true:=by
 induction vs with
 |nil=>intro cs _ h;exact h
 |cons v vs ih=>intro cs h1 h2;cases cs with
  |nil=>rfl
  |cons c cs=>
   rw[mc];simp only[bX,Bool.and_eq_true]at h1 h2 ⊢;exact⟨h1.1,ih cs h1.2 h2.2⟩
theorem lJ (off:Nat)(vs:List AV)(hv:aR vs=true):∀ cs:List AV,aR cs=true->aR (setR off vs cs)=true:=by
 induction off with
 |zero=>intro cs h;exact xG vs cs hv h
 |succ n ih=>intro cs h;cases cs with
  |nil=>rfl
  |cons c cs=>
   rw[gV,bX];simp only[bX,Bool.and_eq_true]at h ⊢;exact⟨h.1,ih cs h.2⟩
theorem yO (off:Nat):∀ (l:List Value) (n:Nat) (cs:Array Value),off+n+l.length<=cs.size->
  ((l.zipIdx n).foldl (fun cs (p:Value×Nat)=>cs.setIfInBounds (off+p.2) p.1) cs).toList=setR (off+n) l cs.toList
 |[],n,cs,_=>by rw[yo];rfl
 |v::l,n,cs,h=>by
  simp only[List.length_cons]at h;rw[List.zipIdx_cons,List.foldl_cons,yO off l (n+1) _ (by simp;omega)];have:=yn (off+n) v l cs.toList (by simp;omega);rw[<- this,Nat.add_assoc];congr 1;simp
theorem Gj (off:Nat)(vs:Array Value)(cs:Array Value)(h:off+vs.size<=cs.size):
  (vs.zipIdx.foldl (fun cs (c,j)=>cs.setIfInBounds (off+j) c) cs).toList=setR off vs.toList cs.toList:=by
 rw[<- Array.foldl_toList,Array.toList_zipIdx];exact yO off vs.toList 0 cs (by simpa using h)
inductive zp (g:Gh)(place:Nat->Option (Nat×Nat)):List (Nat×Nat×AV)->List (Nat×Value)->Prop
 |nil:zp g place [] []
 |cons {off n i:Nat} {a:AV} {u:Value} {l:List (Nat×Nat×AV)} {r:List (Nat×Value)} (hp:place i=some (off,n)) (h:bA g a u) (t:zp g place l r) :
   zp g place ((off,n,a)::l) ((i,u)::r)
theorem Gm (p:Nat×Nat×AV)(l:List (Nat×Nat×AV))(cs:List AV):fillA (p::l) cs =
  cond (and (Nat.beq (len p.2.2.cells) p.2.1) (and (Nat.ble (Nat.add p.1 p.2.1) (len cs)) p.2.2.lies)) (fillA l (setR p.1 p.2.2.cells cs)) none:=rfl
theorem rQ {place:Nat->Option (Nat×Nat)}: ∀ {l:List (Nat×Nat×AV)} {r:List (Nat×Value)},zp g place l r->∀ {cs cs':List AV} {us:Array Value},
  fillA l cs=some cs'->aY g cs us.toList->aR cs=true->∃ us',Instr.fill place us r=some us'/\aY g cs' us'.toList/\aR cs'=true/\cs'.length=cs.length
 |_,_,.nil,cs,cs',us,e,hv,ha=>by cases e;exact⟨us,rfl,hv,ha,rfl⟩
 |_,_,.cons (off:=off) (n:=n) (i:=i) (a:=a) (u:=u) (l:=l) (r:=r) hp h t,cs,cs',us,e,hv,ha=>by
  rw[Gm]at e;obtain⟨hc,e⟩:=aN e;obtain⟨h1,hc⟩:=cR hc;obtain⟨h2,h3⟩:=cR hc;have h1:=beq_eq h1;have h2:=eE h2;rw[bH]at h1 h2;simp only at h1 h2 h3 e;have h2:off+n<=cs.length:=h2;have hcells:=h.cells h3;have hlen:=hcells.length;have hulen:=hv.length;have hsz:u.cells.size=n:=by rw[<- h1,hlen];simp
  have hle:off+u.cells.size<=us.size:=by rw[hsz];simp at hulen;omega
  have e2:=Gj off u.cells us hle;obtain⟨us',f1,f2,f3,f4⟩:=rQ t (us:=u.cells.zipIdx.foldl (fun cs (c,j)=>cs.setIfInBounds (off+j) c) us) e (by rw[e2];exact hcells.setR off hv)
   (lJ off _ (h.fine h3) cs ha)
  refine⟨us',?_,f2,f3,by rw[f4,jk]⟩;simp only[Instr.fill,hp];rw[N_]
  ·exact f1
  ·simp[hsz];omega
theorem oV (n:Nat)(z:List AV):rY (n+1) z=z++rY n z:=by show app z (rY n z)=_;rw[gT]
theorem iX (z:List AV)(h:aR z=true):∀ n,aR (rY n z)=true
 |0=>rfl
 |n+1=>by rw[oV,eJ,h,iX z h n];rfl
theorem jm (z:List AV):∀ n,(rY n z).length=n*z.length
 |0=>by rw[Nat.zero_mul];rfl
 |n+1=>by rw[oV,List.length_append,jm z n,Nat.succ_mul,Nat.add_comm]
theorem uz (zs:Array Value)(m:Nat)(hm:zs.size=m):∀ n,aY g (List.replicate 0 AV.any) []->∀ {z:List AV},aY g z zs.toList->
  aY g (rY n z) ((List.range (n*m)).map fun i=>zs[i % zs.size]!)
 |0,_,z,_=>by rw[Nat.zero_mul];exact .nil
 |n+1,q,z,h=>by
  rw[oV,Nat.succ_mul,Nat.add_comm (n*m) m,List.range_add,List.map_append];refine aY.append ?_ ?_
  ·have e:(List.range m).map (fun i=>zs[i % zs.size]!)=zs.toList:=by
    apply List.ext_getElem?;intro i;rw[List.getElem?_map];by_cases hi:i<m
    ·rw[List.getElem?_range hi];have:i<zs.size:=o_;simp[Nat.mod_eq_of_lt this,this]
    ·rw[List.getElem?_eq_none (by simp;omega)];simp;omega
   rw[e];exact h
  ·rw[List.map_map];have e:((fun i=>zs[i % zs.size]!)∘fun x=>m+x)=fun i=>zs[i % zs.size]!:=by
    funext i;show zs[(m+i) % zs.size]! = _;rw[<- hm,Nat.add_mod_left]
   rw[e];exact uz zs m hm n q h
theorem sV {z:List AV}{zs:Array Value}(h:aY g z zs.toList)(n:Nat):
  aY g (rY n z) ((Array.range (n*zs.size)).map fun i=>zs[i % zs.size]!).toList:=by
 rw[Array.toList_map,Array.toList_range];exact uz zs zs.size rfl n .nil h
end lists
section
variable {C:Cx}{g:Gh}{U:Nat->Option (List AV)}{h h':AH}{w:World}{tm:Tm}{tmps:Array Value}{v:AV}
theorem Ot (ht:ep g tm tmps){fs:Array Field}{pl:Array (Nat×Nat)}(hpl:∀ (i:Nat) (f:Field) (n:Nat),fs.toList[i]?=some f->szT C.T f.type=some n->pl[i]?=some (f.offset,n)):
  ∀ {l:List (Nat×Operand)} {r:List (Nat×Nat×AX)},hX (Is C.T fs.toList) l=some r->zp g (pl[·]?) (eO r tm) (l.map fun(i,x)=>(i,alc tmps x))
 |[],r,e=>by cases e;exact .nil
 |(i,x)::l,r,e=>by
  obtain⟨b,r',hb,hr,rfl⟩:=bS e;obtain⟨f,hf,hb⟩:=aA hb;obtain⟨n,hn,hb⟩:=aA hb;obtain⟨ax,hx,hb⟩:=aA hb;cases hb;exact .cons (hpl i f n hf hn) (bQ ht hx) (Ot ht hpl hr)
theorem Ov (ht:ep g tm tmps){n:Nat}:
  ∀ {l:List (Nat×Operand)} {r:List (Nat×Nat×AX)},hX (Iu n) l=some r->zp g (fun i=>some (i*n,n)) (eO r tm) (l.map fun(i,x)=>(i,alc tmps x))
 |[],r,e=>by cases e;exact .nil
 |(i,x)::l,r,e=>by
  obtain⟨b,r',hb,hr,rfl⟩:=bS e;obtain⟨ax,hx,hb⟩:=aA hb;cases hb;exact .cons rfl (bQ ht hx) (Ov ht hr)
theorem Ou (ht:ep g tm tmps){n:Nat}:
  ∀ {l:List (Nat×Operand)} {r:List (Nat×AX)},hX Fg l=some r->zp g (fun i=>some (i*n,n)) (cD r tm n) (l.map fun(i,x)=>(i,alc tmps x))
 |[],r,e=>by cases e;exact .nil
 |(i,x)::l,r,e=>by
  obtain⟨b,r',hb,hr,rfl⟩:=bS e;obtain⟨ax,hx,hb⟩:=aA hb;cases hb;exact .cons rfl (bQ ht hx) (Ou ht hr)
theorem tI (w:World):∀ (fs:List Field) (ns:List Nat),hX (fun f=>szT C.T f.type) fs=some ns->
  ∃ pl:List (Nat×Nat),(fs.mapM fun f=>Functor.map (Prod.mk f.offset) (sizeOf f.type)).run C.P w=.ok pl w/\
   ∀ (i:Nat) (f:Field) (n:Nat),fs[i]?=some f->szT C.T f.type=some n->pl[i]?=some (f.offset,n)
 |[],ns,_=>⟨[],by simp,fun i f n hf=>by simp at hf⟩
 |f::fs,ns,e=>by
  obtain⟨n,ns',hn,hr,rfl⟩:=bS e;obtain⟨pl,h1,h2⟩:=tI w fs ns' hr;refine⟨(f.offset,n)::pl,?_,fun i f' n' hf hn'=>?_⟩
  ·simp[List.mapM_cons,bY hn,h1]
  ·cases i with
   |zero=>simp at hf;subst hf;rw[hn]at hn';cases hn';rfl
   |succ i=>simpa using h2 i f' n' (by simpa using hf) hn'
theorem tS {z:List AV}{ps:List (Nat×Nat×AV)}(e:bT h z ps=.val v h'):∃ cs,fillA ps z=some cs/\v=.agg cs/\h'=h:=by
 unfold bT at e;cases hf:fillA ps z with
 |none=>rw[hf]at e;cases e
 |some cs=>rw[hf]at e;cases e;exact⟨cs,rfl,rfl,rfl⟩
theorem Vh (s:Sim C g U h w)(ht:ep g tm tmps){o:Oper}{t:TypeId}{parts:Array (Nat×Operand)}{aop:AOp}(ho:o.op=.build t parts)(hc:Zr C.T t parts=some aop)
  (e:evOp aop tm h=.val v h'):gG C g U h ((execOp (alc tmps) o).run C.P w) v h':=by
 obtain⟨z,hz,hc⟩:=aA hc;obtain⟨d,hd,hc⟩:=aA hc;obtain⟨i,zv,hi,hzv,hr,hlen,hcl,_⟩:=iG g hz;have hl:z.lies=true:=by cases z<;>first|rfl|(simp[AV.cells,bX,AV.isCell]at hcl)
 have hzr:=hr.cells hl;cases d<;>first|(cases hc;done)|skip
 case struct fs=>
  have hc:aD (hX (fun(f:Field)=>szT C.T f.type) fs.toList) (fun _=>aD (hX (Is C.T fs.toList) parts.toList) fun ps=>some (.build z.cells ps))=some aop:=hc;obtain⟨ns,hns,hc⟩:=aA hc;obtain⟨ps,hps,hc⟩:=aA hc;cases hc;obtain⟨cs,hf,rfl,rfl⟩:=tS (h:=h) (z:=z.cells) (ps:=eO ps tm) e;obtain⟨pl,hpl1,hpl2⟩:=tI (C:=C) w fs.toList ns hns;obtain⟨us',f1,f2,f3,_⟩:=rQ (Ot (pl:=⟨pl⟩) ht (by simpa using hpl2) hps) hf hzr hcl;refine bc (u:=.agg us') s ?_ ?_
  ·have hm:parts.toList.map (fun(i,x)=>(i,alc tmps x))=(parts.map fun(i,x)=>(i,alc tmps x)).toList:=by simp
   rw[hm]at f1;simp[execOp,ho,Instr.build,cZ hi hzv,bj hd,Array.mapM_eq_mapM_toList,hpl1];simp at f1;simp[f1]
  ·obtain⟨us'⟩:=us';exact .agg f3 f2
 case array n el=>
  have hc:aD (szT C.T el) (fun n=>aD (hX (Iu n) parts.toList) fun ps=>some (.build z.cells ps))=some aop:=hc;obtain⟨m,hm,hc⟩:=aA hc;obtain⟨ps,hps,hc⟩:=aA hc;cases hc;obtain⟨cs,hf,rfl,rfl⟩:=tS (h:=h) (z:=z.cells) (ps:=eO ps tm) e;obtain⟨us',f1,f2,f3,_⟩:=rQ (Ov ht hps) hf hzr hcl;refine bc (u:=.agg us') s ?_ ?_
  ·have hm':parts.toList.map (fun(i,x)=>(i,alc tmps x))=(parts.map fun(i,x)=>(i,alc tmps x)).toList:=by simp
   rw[hm']at f1;simp[execOp,ho,Instr.build,cZ hi hzv,bj hd,bY hm];simp at f1;simp[f1]
  ·obtain⟨us'⟩:=us';exact .agg f3 f2
end
theorem Sim.live {C:Cx}{g:Gh}{U:Nat->Option (List AV)}{h:AH}{w:World}(s:Sim C g U h w){k n:Nat}{l:Loc}(e:g.ρ k n=some l):U k=none:=by
 cases hj:U k with
 |none=>rfl
 |some z=>rw[(s.unb k z hj).2]at e;cases e
theorem je {v:AV}(h:v.isAgg=false):v.cells=[v]:=by cases v<;>first|rfl|(simp[AV.isAgg]at h)
theorem wH {agg:Bool}{sz off:Nat}{cs:List AV}{v:AV}(h:rj agg sz off cs=some v)(ha:aR cs=true):
  v.cells=(cs.drop off).take sz/\v.cells.length=sz/\off+sz<=cs.length/\v.isAgg=agg/\aR v.cells=true/\(agg=false->sz=1):=by
 cases agg with
 |true=>
  have h:cond (Nat.ble (Nat.add off sz) (len cs)) (some (AV.agg (tke sz (drp off cs)))) none=some v:=h;obtain⟨h1,h2⟩:=aN h;have h1:=eE h1;rw[bH]at h1;have h1:off+sz<=cs.length:=h1;cases h2;rw[iB,fa];have hc:aR ((cs.drop off).take sz)=true:=by
   rw[dc]at ha ⊢;exact fun a hm=>ha a (List.mem_of_mem_drop (List.mem_of_mem_take hm))
  exact⟨rfl,by simp[AV.cells];omega,h1,rfl,hc,fun x=>by cases x⟩
 |false=>
  have h:cond (Nat.beq sz 1) (pT off cs) none=some v:=h;obtain⟨h1,h2⟩:=aN h;have h1:=beq_eq h1;subst h1;rw[ie]at h2;have hi':off<cs.length:=by
   rcases Nat.lt_or_ge off cs.length with x|x
   ·exact x
   ·rw[List.getElem?_eq_none x]at h2;cases h2
  have e':(cs.drop off).take 1=[v]:=by
   rw[a_ hi']at h2;cases h2;rw[List.drop_eq_getElem_cons hi'];rfl
  have hc:v.isCell=true:=(dc cs).1 ha v (m_ h2);have hagg:v.isAgg=false:=by cases v<;>first|rfl|(simp[AV.isCell]at hc)
  have hcells:=je hagg;exact⟨by rw[hcells,e'],by rw[hcells];rfl,o_,hagg,by rw[hcells,bX,hc];rfl,fun _=>rfl⟩
theorem vf (agg:Bool)(sz n:Nat)(cs:List AV):chunk agg sz (n+1) cs=aD (rj agg sz 0 cs) fun v=>aD (chunk agg sz n (drp sz cs)) fun r=>some (v::r):=rfl
structure Chunk (agg:Bool)(sz n:Nat)(cs es:List AV):Prop where
 flat:flat es=cs.take (n*sz)
 len:es.length=n
 size:∀ e∈es,e.cells.length=sz
 le:n*sz<=cs.length
 fine:∀ e∈es,aR e.cells=true
 agg:∀ e∈es,e.isAgg=agg
theorem jX {agg:Bool}{sz:Nat}: ∀ {n:Nat} {cs es:List AV},chunk agg sz n cs=some es->aR cs=true->Chunk agg sz n cs es
 |0,cs,es,h,ha=>by
  cases h;exact⟨by simp[oQ],rfl,fun e he=>by simp at he,by simp,fun e he=>by simp at he,fun e he=>by simp at he⟩
 |n+1,cs,es,h,ha=>by
  rw[vf]at h;obtain⟨v,hv,h⟩:=aA h;obtain⟨r,hr,h⟩:=aA h;cases h;rw[fa]at hr;obtain⟨g1,g2,g3,g4,g5,_⟩:=wH hv ha;have ha':aR (cs.drop sz)=true:=by
   rw[dc]at ha ⊢;exact fun a hm=>ha a (List.mem_of_mem_drop hm)
  have ih:=jX hr ha';have hle:=ih.le;simp only[List.length_drop]at hle;refine⟨?_,by simp[ih.len],?_,by rw[Nat.succ_mul];omega,?_,?_⟩
  ·rw[cw,ih.flat,g1,List.drop_zero,Nat.succ_mul,Nat.add_comm (n*sz) sz,List.take_add]
  ·intro e he;cases he with
   |head=>exact g2
   |tail _ he=>exact ih.size e he
  ·intro e he;cases he with
   |head=>exact g5
   |tail _ he=>exact ih.fine e he
  ·intro e he;cases he with
   |head=>exact g4
   |tail _ he=>exact ih.agg e he
theorem eR {cs:List AV}(h:aR cs=true)(n:Nat):aR (cs.take n)=true:=by
 rw[dc]at h ⊢;exact fun a hm=>h a (List.mem_of_mem_take hm)
theorem da {cs:List AV}(h:aR cs=true)(n:Nat):aR (cs.drop n)=true:=by
 rw[dc]at h ⊢;exact fun a hm=>h a (List.mem_of_mem_drop hm)
theorem UO {g:Gh}{v:AV}{us:List Value}(hv:aY g v.cells us)(hc:aR v.cells=true):bA g v (wX v.isAgg us):=by
 cases ha:v.isAgg with
 |true=>
  cases v<;>first|(simp[AV.isAgg]at ha;done)|skip
  case agg cs=>exact .agg hc hv
 |false=>
  rw[je ha]at hv;cases hv with
  |cons h t=>cases t;exact h
theorem ij {n:Nat}(f:Nat->Value)(h:n=0):(Array.range n).map f=#[]:=by
 subst h;apply Array.ext';rw[Array.toList_map,Array.toList_range];rfl
section
variable {C:Cx}{g:Gh}{U:Nat->Option (List AV)}{h h':AH}{w:World}{tm:Tm}{tmps:Array Value}{v:AV}
theorem lZ {z:AV}(hc:aR z.cells=true):z.lies=true:=by
 cases z<;>first|rfl|(simp[AV.cells,bX,AV.isCell]at hc)
theorem oY (s:Sim C g U h w)(t:TypeId){sz n:Nat}{agg:Bool}{cs:List AV}{us:Array Value}(hp:0<sz)(cap:Nat)(hn:n<=cap)(hu:cap*sz<=us.size)
  (hl:cs.length<=cap*sz) (hv:aY g cs (us.toList.take cs.length)) (ha:aR cs=true) :
  ∃ g' w',(newRow t us).run C.P w=.ok ⟨w.heap.size,0,none⟩ w'/\Ext g g'/\Sim C g' U (h.new (.row 0 sz agg cs 0)) w'/\
   bA g' (.row h.z 0 sz 0 n) (.slice (some ⟨w.heap.size,0,none⟩) n cap):=by
 have ex:=g.at_ext ⟨w.heap.size,0,cap,sz⟩ (s.rfresh 0);obtain⟨ex,s'⟩:=s.alloc (.row 0 sz agg cs 0) (.cells us t) ⟨w.heap.size,0,cap,sz⟩ rfl rfl
  ⟨rfl,hp,us,t,heap_alloc_new _ _,by simpa using hu,hl,by rw[List.drop_zero];exact hv.mono ex,ha,fun o v q=>by
   have q:g.F w.heap.size o=some v:=q;exact absurd (s.frz_lt q) (Nat.lt_irrefl _),fun m hm=>by
    rw[Gh.at_other g _ o_];exact s.rfresh m⟩
 refine⟨_,_,by simp[newRow],ex,s',?_⟩;have:=bA.row (g:=g.at h.z 0 ⟨w.heap.size,0,cap,sz⟩) (k:=h.z) (n:=0) (sz:=sz) (off:=0) (len:=n) (g.at_same _ _ _) rfl (by simpa using hn);simpa using this
theorem aii (s:Sim C g U h w)(ht:ep g tm tmps){o:Oper}{t:TypeId}{n:Nat}{parts:Array (Nat×Operand)}{aop:AOp}{frz:Bool}(ho:o.op=.buildSlice t n parts)
  (hc:cLit C.T frz t n parts=some aop) (e:evOp aop tm h=.val v h'):gG C g U h ((execOp (alc tmps) o).run C.P w) v h':=by
 obtain⟨el,hel,hc⟩:=aA hc;obtain⟨sz,hsz,hc⟩:=aA hc;obtain⟨z,hz,hc⟩:=aA hc;obtain⟨ps,hps,hc⟩:=aA hc;obtain⟨hcond,hc⟩:=aN hc;cases hc;obtain⟨c1,c2⟩:=cR hcond;have c1:n*sz<=16777216:=eE c1;have c2:0<sz:=iF c2;obtain⟨d,hd,hel⟩:=aA hel;cases d<;>first|(cases hel;done)|skip
 case slice=>
 cases hel;obtain⟨i,zv,hi,hzv,hr,hlen,hcl,_⟩:=iG g hz;obtain⟨i',d',hi',hsz',_⟩:=mB hsz;rw[hi]at hi';cases hi';have hzr:=hr.cells (lZ hcl);have hzlen:zv.cells.size=sz:=by have:=hzr.length;simp at this;omega
 have e:fY frz (cm C.T el) sz z.cells n (cD ps tm sz) h=.val v h':=e;unfold fY at e;cases hf:fillA (cD ps tm sz) (rY n z.cells) with
 |none=>rw[hf]at e;cases e
 |some cs=>
  rw[hf]at e;simp only at e;obtain⟨us',f1,f2,f3,f4⟩:=rQ (Ou (n:=sz) ht hps) hf (sV hzr n) (iX _ hcl n);rw[jm,hlen,hsz']at f4;have hus:us'.size=n*sz:=by have:=f2.length;simp at this;omega
  have f1:Instr.fill (fun i=>some (i*sz,sz)) ((Array.range (n*zv.cells.size)).map fun i=>zv.cells[i % zv.cells.size]!)
   (parts.toList.map fun x=>(x.1,alc tmps x.2))=some us':=f1
  have run:∀ w',(newRow el us').run C.P w=.ok ⟨w.heap.size,0,none⟩ w'->
    (execOp (alc tmps) o).run C.P w=.ok (.value (.slice (some ⟨w.heap.size,0,none⟩) n n)) w':=by
   intro w' hw';have hnle:¬ (n*sz > 2 ^ 24):=by simp;omega
   by_cases h0:n*sz=0
   ·have hn0:n=0:=by
     rcases Nat.mul_eq_zero.1 h0 with x|x
     ·exact x
     ·omega
    subst hn0;have r0:(Array.range (0*zv.cells.size)).map (fun i=>zv.cells[i % zv.cells.size]!)=#[]:=ij _ (Nat.zero_mul _);rw[r0]at f1;have r1:∀ f:Nat->Value,(Array.range 0).map f=#[]:=fun f=>ij f rfl
    simp[execOp,ho,Instr.buildSlice,bj hd,bY hsz,r1,f1,hw']
   ·simp only[hzlen]at f1;simp[execOp,ho,Instr.buildSlice,bj hd,bY hsz,h0,hnle,cZ hi hzv,hzlen,f1,hw']
  cases frz with
  |true=>
   simp only[cond_true]at e;cases hch:chunk (cm C.T el) sz n cs with
   |none=>rw[hch]at e;cases e
   |some es=>
    rw[hch]at e;cases e;have ch:=jX hch f3;have hfl:flat es=cs:=by rw[ch.flat,List.take_of_length_le o_]
    obtain⟨ex,s'⟩:=s.allocFz us' el;refine⟨_,_,_,.inl (run _ (by simp[newRow])),ex,s',?_,.refl h⟩;refine .clip ch.size (by rw[hfl];exact f3) ch.len.symm ch.len ?_;rw[hfl];exact eu.mk (f2.mono ex) fun i u hu=>by simpa using Gh.fz_at g w.heap.size 0 us'.toList hu
  |false=>
   simp only[cond_false]at e;cases e;obtain⟨g',w',hw',ex,s',hv⟩:=oY (agg:=cm C.T el) s el c2 n (e_ _) o_ (cs:=cs) (us:=us') o_
    (by rw[List.take_of_length_le (by simp;omega)];exact f2) f3
   exact⟨g',w',_,.inl (run w' hw'),ex,s',hv,Low.new _ _⟩
end
section
variable {C:Cx}{g:Gh}{U:Nat->Option (List AV)}{h h':AH}{w:World}{tm:Tm}{tmps:Array Value}{v:AV}
theorem Gf (s:Sim C g U h w){x:AV}{u:Value}{agg:Bool}{sz:Nat}(hx:bA g x u)(e:cj x h agg sz=some v):
  ∃ b off us,u=.pointer (some ⟨b,off,none⟩)/\us.length=sz/\(∀ i y,us[i]?=some y->w.cell? ⟨b,off+i,none⟩=some y)/\aY g v.cells us/\aR v.cells=true/\v.isAgg=agg/\(agg=false->sz=1):=by
 cases x<;>first|(cases e;done)|skip
 case vptr a=>
  obtain⟨hc,e⟩:=aN (c:=and (mq a.isAgg agg) (Nat.beq (len a.cells) sz)) e;cases e;obtain⟨h1,h2⟩:=cR hc;have h1:=wi h1;have h2:=beq_eq h2;rw[bH]at h2;obtain⟨b,off,ha,hr,rfl⟩:=hx.vptr_inv;obtain⟨us,hv,hF⟩:=hr.vals;refine⟨b,off,us,rfl,by rw[<- hv.length];exact h2,fun i y hi=>s.frz _ _ _ (hF i y hi),hv,ha,h1,fun hq=>?_⟩;rw[hq]at h1;rw[je h1]at h2;exact h2.symm
 case ptr k n off=>
  obtain⟨o,ho,e⟩:=aA (o:=h.get k) e;obtain⟨l,hl,rfl⟩:=hx.ptr_inv;have hu:=s.live hl;obtain⟨l',h1,h2,h3⟩:=s.obj k o ho hu;cases o<;>first|(cases e;done)|skip
  case box cs=>
   obtain⟨hn,e'⟩:=aN (c:=Nat.beq n 0) e;clear e;have e:=e';have hn:=beq_eq hn;subst hn;have h1:g.ρ k 0=some l':=h1;rw[hl]at h1;cases h1;obtain⟨hb,us,t,e1,hv,ha,_⟩:=h3;obtain⟨g1,g2,g3,g4,g5,g6,g7,g8⟩:=wG e' hv ha;refine⟨l.block,l.base+off,_,rfl,g1,fun i y hi=>?_,by rw[g8];exact(hv.drop off).take sz,g6,g4,g5⟩;rw[cell_of_row _ _ _ us t (0,0) e1,hb];rw[List.getElem?_take]at hi;split at hi
   ·rw[List.getElem?_drop]at hi;rw[z_];simpa using hi
   ·cases hi
  case row n' sz' agg' cs fz=>
   obtain⟨hn,e'⟩:=aN (c:=Nat.beq n n') e;clear e;have e:=e';have hn:=beq_eq hn;subst hn;have h1:g.ρ k n=some l':=h1;rw[hl]at h1;cases h1;obtain⟨_,_,us,t,e1,q1,q2,hv,ha,_,_⟩:=h3;obtain⟨g1,g2,g3,g4,g5,g6,g7,g8⟩:=wG e' hv ha;refine⟨l.block,l.base+off,_,rfl,g1,fun i y hi=>?_,by rw[g8];exact(hv.drop off).take sz,g6,g4,g5⟩;rw[cell_of_row _ _ _ us t (0,0) e1];rw[List.getElem?_take]at hi;split at hi
   ·rw[List.getElem?_drop,List.getElem?_take]at hi;split at hi
    ·rw[List.getElem?_drop]at hi;rw[Nat.add_assoc];simpa using hi
    ·cases hi
   ·cases hi
theorem EH (s:Sim C g U h w){t:TypeId}{n:Nat}{x:AV}{u:Value}(hn:szT C.T t=some n)(hx:bA g x u)(e:cj x h (cm C.T t) n=some v):
  ∃ a y,u=.pointer (some a)/\(loadVar t a).run C.P w=.ok y w/\bA g v y:=by
 obtain⟨b,off,us,rfl,h1,h2,h3,h4,h5,h6⟩:=Gf s hx e;refine⟨_,wX (cm C.T t) us,rfl,uq (by rw[h1];exact hn) (fun q=>by rw[h1];exact h6 q) h2,?_⟩;have:=UO h3 h4;rw[h5]at this;exact this
theorem acf (s:Sim C g U h w)(ht:ep g tm tmps){o:Oper}{t:TypeId}{x:Operand}{ax:AX}{n:Nat}(ho:o.op=.load t x)(hn:szT C.T t=some n)(hx:cX x=some ax)
  (e:okV (cj (ev ax tm) h (cm C.T t) n) h=.val v h'):gG C g U h ((execOp (alc tmps) o).run C.P w) v h':=by
 obtain⟨e',rfl⟩:=dx e;clear e;have e:=e';obtain⟨a,y,hu,hrun,hv⟩:=EH s hn (bQ ht hx) e;exact bc s (by simp[execOp,ho,Instr.loadAt,Instr.sureAddr,hu,hrun]) hv
theorem pw {cs:List AV}{us:List Value}(hv:aY g cs us)(ha:aR cs=true):∀ u∈us,u.oneCell'=true:=by
 intro u hu;obtain⟨i,hi⟩:=List.getElem?_of_mem hu;obtain⟨x,hx,hr⟩:=hv.get' hi;exact hr.oneCell ((dc cs).1 ha x (m_ hx))
theorem ya (s:Sim C g U h w){k n off:Nat}{o o':fD}{l:Loc}{vs:List AV}{ws:List Value}(ho:h.get k=some o)(hl:g.ρ k n=some l)
  (e:storeAt o n off vs=some o') (hv:aY g vs ws) (ha:aR vs=true) :
  ∃ w',(storeCells ⟨l.block,l.base+off,none⟩ ws).run C.P w=.ok () w'/\Sim C g U (h.set k o') w':=by
 have hu:=s.live hl;obtain⟨l',h1,h2,h3⟩:=s.obj k o ho hu;have hone:=pw hv ha;have hlen:=hv.length;cases o<;>first|(cases e;done)|skip
 case box cs=>
  obtain⟨hn,e'⟩:=aN (c:=and (Nat.beq n 0) (Nat.ble (Nat.add off (len vs)) (len cs))) e;clear e;have e:=e';obtain⟨hn,hle⟩:=cR hn;have hn:=beq_eq hn;have hle:=eE hle;rw[bH,bH]at hle;have hle:off+vs.length<=cs.length:=hle;subst hn;cases e;have h1:g.ρ k 0=some l':=h1;rw[hl]at h1;cases h1;obtain⟨hb,us,t,e1,hvs,hcs,hF⟩:=h3;have hul:=hvs.length;simp only[Array.length_toList]at hul;have hrun:=fE (C:=C) (b:=l.block) (off:=l.base+off) (t:=t) ws 0 w us e1 o_ hone;refine⟨_,hrun,?_⟩;simp only[hb,z_,Nat.add_zero];have hlt:l.block<w.heap.size:=(Array.getElem?_eq_some_iff.1 e1).1;refine s.put ho hu hl rfl ⟨hb,_,t,dZ hlt,?_,lJ off vs ha cs hcs,hF⟩ (fun i y q=>absurd q (hF i y));exact hv.setR off hvs
 case row n' sz agg cs fz=>
  obtain⟨hn,e'⟩:=aN (c:=and (Nat.beq n n') (and (Nat.ble fz off) (Nat.ble (Nat.add off (len vs)) (len cs)))) e;clear e;have e:=e';obtain⟨hn,hle⟩:=cR hn;obtain⟨hfz,hle⟩:=cR hle;have hn:=beq_eq hn;have hfz:=eE hfz;have hle:=eE hle;rw[bH,bH]at hle;have hle:off+vs.length<=cs.length:=hle;subst hn;cases e;have h1:g.ρ k n=some l':=h1;rw[hl]at h1;cases h1;obtain⟨hs,hp,us,t,e1,q1,q2,hvs,hcs,hF,hr⟩:=h3;have hul:=hvs.length;simp only[List.length_take,List.length_drop,Array.length_toList]at hul;have hrun:=fE (C:=C) (b:=l.block) (off:=l.base+off) (t:=t) ws 0 w us e1 o_ hone;refine⟨_,hrun,?_⟩;simp only[Nat.add_zero];have hlt:l.block<w.heap.size:=(Array.getElem?_eq_some_iff.1 e1).1;have hbnd:l.base+off+ws.length<=us.toList.length:=by simp;omega
  refine s.put ho hu hl rfl ⟨hs,hp,_,t,dZ hlt,?_,by rw[jk];exact q2,?_,lJ off vs ha cs hcs,hF,hr⟩ (fun i y q=>?_)
  ·show l.base+l.cap*sz<=(setR (l.base+off) ws us.toList).length;rw[jk];simpa using q1
  ·have:((setR (l.base+off) ws us.toList).drop l.base).take (setR off vs cs).length=setR off ws ((us.toList.drop l.base).take cs.length):=by
    rw[jk];apply List.ext_getElem?;intro i;rw[List.getElem?_take,oI off ws _ i (by simp;omega),List.getElem?_take,List.getElem?_drop,List.getElem?_drop,oI _ _ _ _ hbnd];by_cases hi:i<cs.length
    ·rw[P_ hi,P_ hi];by_cases hj:off<=i/\i<off+ws.length
     ·rw[P_ hj,P_ o_];congr 1;omega
     ·rw[N_ hj,N_ o_]
    ·rw[N_ hi,N_ hi,N_ o_]
   rw[this];exact hv.setR off hvs
  ·have hi:=hF i y q;rw[cell_of_row _ _ _ _ t (0,0) (dZ hlt)];have:=s.frz _ _ _ q;rw[cell_of_row _ _ _ us t (0,0) e1]at this;have e2:(⟨setR (l.base+off) ws us.toList⟩:Array Value)[i]?=(setR (l.base+off) ws us.toList)[i]?:=by simp
   rw[e2,oI _ _ _ _ hbnd,N_ o_];simpa using this
theorem UU (s:Sim C g U h w)(ht:ep g tm tmps){o:Oper}{t:TypeId}{x y:Operand}{ax ay:AX}{n:Nat}(ho:o.op=.store t x y)(hn:szT C.T t=some n)(hx:cX x=some ax)
  (hy:cX y=some ay) (e:okH (dQ (ev ax tm) h n (ev ay tm))=.val v h'):gG C g U h ((execOp (alc tmps) o).run C.P w) v h':=by
 obtain⟨e',rfl⟩:=Be e;clear e;have e:=e';have rx:=bQ ht hx;have ry:=bQ ht hy;generalize ev ax tm=a at rx e;cases a<;>first|(cases e;done)|skip
 case ptr k m off=>
  obtain⟨hc,e⟩:=aN (c:=and (Nat.beq (len (ev ay tm).cells) n) (ev ay tm).lies) e;obtain⟨h1,h2⟩:=cR hc;have h1:=beq_eq h1;rw[bH]at h1;obtain⟨ob,hob,e⟩:=aA e;obtain⟨ob',hob',e⟩:=aA e;cases e;obtain⟨l,hl,hu⟩:=rx.ptr_inv;have hcells:=ry.cells h2;obtain⟨w',hrun,s'⟩:=ya s hob hl hob' hcells (ry.fine h2);have hsz:(alc tmps y).cells.size=n:=by have:=hcells.length;simp at this;omega
  refine⟨g,w',undef,.inr ⟨?_,rfl⟩,.refl g,s',.tup .nil,Low.set _ _ _⟩;simp[execOp,ho,Instr.storeAt,Instr.sureAddr,hu,storeVar,bY hn,hsz,hrun]
theorem RB (s:Sim C g U h w)(ht:ep g tm tmps){o:Oper}{x:Operand}{ax:AX}(ho:o.op=.nilCheck x)(hx:cX x=some ax)
  (e:iK (ev ax tm) h=.val v h'):gG C g U h ((execOp (alc tmps) o).run C.P w) v h':=by
 have rx:=bQ ht hx;generalize ev ax tm=a at rx e;cases a<;>first|(cases e;done)|skip
 case ptr k m off=>
  cases e;obtain⟨l,hl,hu⟩:=rx.ptr_inv;exact bc s (by simp[execOp,ho,hu]) (hu▸rx)
 case vptr a=>
  cases e;obtain⟨b,off,_,_,hu⟩:=rx.vptr_inv;exact bc s (by simp[execOp,ho,hu]) (hu▸rx)
 case fn f a b=>
  cases e;obtain⟨x',y',_,_,hu⟩:=rx.fn_inv;exact bc s (by simp[execOp,ho,hu]) (hu▸rx)
theorem FW (s:Sim C g U h w)(ht:ep g tm tmps){o:Oper}{x:Operand}{ax:AX}{i:Nat}(ho:o.op=.extract x i)(hx:cX x=some ax)
  (e:okV (aD (TV (ev ax tm)) fun l=>pT i l) h=.val v h'):gG C g U h ((execOp (alc tmps) o).run C.P w) v h':=by
 obtain⟨e',rfl⟩:=dx e;clear e;have e:=e';obtain⟨l,hl,e⟩:=aA e;rw[ie]at e;have rx:=bQ ht hx;rw[QE hl]at rx;obtain⟨us,hv,hu⟩:=rx.tup_inv;obtain⟨y,hy,hr⟩:=hv.get e;exact bc s (by simp[execOp,ho,hu,Instr.extract,hy]) hr
theorem uW {t:TypeId}{f:Nat}{p:Nat×Nat×Bool}(e:nT C.T t f=some p):
  ∃ fs fd,C.P.underlying t=some (.struct fs)/\und C.T t=some (.struct fs)/\fs[f]?=some fd/\p.1=fd.offset/\szT C.T fd.type=some p.2.1/\0<p.2.1/\p.2.2=cm C.T fd.type:=by
 obtain⟨fs,hfs,e⟩:=aA e;obtain⟨fd,hfd,e⟩:=aA e;obtain⟨n,hn,e⟩:=aA e;obtain⟨hc,e⟩:=aN e;cases e;obtain⟨d,hd,hfs⟩:=aA hfs;cases d<;>first|(cases hfs;done)|skip
 case struct fs'=>
 cases hfs;exact⟨fs,fd,WW hd,hd,by simpa using hfd,rfl,hn,iF hc,rfl⟩
theorem Ek {t:TypeId}{n off:Nat}{cs:List AV}{us:List Value}(hn:szT C.T t=some n)(hv:aY g cs us)(ha:aR cs=true)(e:rj (cm C.T t) n off cs=some v):
  ∃ y,(part t ⟨us⟩ off).run C.P w=.ok y w/\bA g v y:=by
 obtain⟨g1,g2,g3,g4,g5,g6,g7,g8⟩:=wG e hv ha;refine⟨_,?_,g2⟩;simp only[part,Sem.run_bind,yt hn,Result.andThen_ok];cases hag:cm C.T t with
 |true=>
  have ee:(⟨us⟩:Array Value).extract off (off+n)=⟨(us.drop off).take n⟩:=by
   apply Array.ext';simp[List.take_drop,Nat.add_comm]
  simp only[if_true,Sem.run_bind,bY hn,Result.andThen_ok,Sem.run_pure,wX,ee]
 |false=>
  have h1:=g5 hag;subst h1;have hl:=hv.length;have hi:off<us.length:=o_;have e1:us[off]?=some us[off]:=a_ hi;have e2:(us.drop off).take 1=[us[off]]:=by rw[List.drop_eq_getElem_cons hi];rfl
  rw[e2];simp[wX,hi]
theorem Vd (s:Sim C g U h w)(ht:ep g tm tmps){o:Oper}{t:TypeId}{x:Operand}{ax:AX}{f:Nat}{p:Nat×Nat×Bool}(ho:o.op=.field t x f)(hp:nT C.T t f=some p)(hx:cX x=some ax)
  (e:okV (vS (ev ax tm) p.1 p.2.1 p.2.2) h=.val v h'):gG C g U h ((execOp (alc tmps) o).run C.P w) v h':=by
 obtain⟨e',rfl⟩:=dx e;clear e;have e:=e';obtain⟨cs,hcs,e⟩:=aA e;obtain⟨fs,fd,_,hd,hfd,p1,p2,_,p3⟩:=uW hp;have rx:=bQ ht hx;rw[jY hcs]at rx;obtain⟨us,ha,hv,hu⟩:=rx.agg_inv;rw[p3]at e;obtain⟨y,hy,hr⟩:=Ek (w:=w) p2 hv ha e;refine bc s ?_ hr;rw[p1]at hy;simp[execOp,ho,hu,Instr.field,bj hd,hfd,asAgg,hy]
theorem Ve (s:Sim C g U h w)(ht:ep g tm tmps){o:Oper}{t:TypeId}{x:Operand}{ax:AX}{f:Nat}{p:Nat×Nat×Bool}(ho:o.op=.fieldAddr t x f)(hp:nT C.T t f=some p)(hx:cX x=some ax)
  (e:cp (ev ax tm) h p.1 p.2.1 p.2.2=.val v h'):gG C g U h ((execOp (alc tmps) o).run C.P w) v h':=by
 obtain⟨fs,fd,_,hd,hfd,p1,p2,p4,p3⟩:=uW hp;have rx:=bQ ht hx;have hne:¬ p.2.1=0:=o_;have run:∀ b off,alc tmps x=.pointer (some ⟨b,off,none⟩)->(execOp (alc tmps) o).run C.P w=.ok (.value (.pointer (some ⟨b,off+p.1,none⟩))) w:=by
  intro b off hu;simp[execOp,ho,hu,Instr.fieldAt,Instr.sureAddr,bj hd,hfd,fieldPlace,bY p2,hne,iM,p1]
 generalize ev ax tm=a at rx e;cases a<;>first|(cases e;done)|skip
 case ptr k m off=>
  cases e;obtain⟨l,hl,hu⟩:=rx.ptr_inv;refine bc s (run _ _ hu) ?_;rw[Nat.add_assoc];exact .ptr hl
 case vptr a=>
  obtain⟨e',rfl⟩:=dx e;clear e;have e:=e';obtain⟨cs,hcs,e⟩:=aA e;obtain⟨y,hy,e⟩:=aA e;cases e;obtain⟨b,off,ha,hr,hu⟩:=rx.vptr_inv;rw[jY hcs]at ha hr;have ha:aR cs=true:=ha;have hr:eu g b off cs:=hr;obtain⟨g1,g2,g3,g4,g5,_⟩:=wH hy ha;refine bc s (run _ _ hu) (.vptr g5 ?_);rw[g1];exact hr.sub p.1 p.2.1 o_
end
