/- AbsGo: one operation of the evaluator's is one of the model's: the plain ones (no condition). -/
import Derived.Test.YtnacljdablhbgaaGreatAb
namespace Go.AG
def gt (tmps:Array Value):Operand->Value
 |.tmp t=>tmps.getD t undef
 |.const v=>v
 |.global g=>.pointer (some ⟨g,0,none⟩)
 |.func f=>.func (.func f) #[] #[]
theorem Bu (fr:Frame):fr.eval=gt fr.tmps:=by
 funext x;cases x<;>rfl
def im (C:Cx)(g:Gh)(U:Nat->Option (List AV))(h:AH)(r:Result Next)(v:AV)(h':AH):Prop:=
 ∃g' w' u,(r=.ok (.value u) w'∨(r=.ok .skip w'/\u=undef))/\Ext g g'/\Sim C g' U h' w'/\bu g' v u/\Low h h'
section
variable {C:Cx}{g:Gh}{U:Nat->Option (List AV)}{h h':AH}{w:World}{tm:Tm}{tmps:Array Value}{v:AV}
theorem aY {r:Result Next}{u:Value}(s:Sim C g U h w)(hr:r=.ok (.value u) w)(hv:bu g v u):im C g U h r v h:=
 ⟨g,w,u,.inl hr,.refl g,s,hv,.refl h⟩
theorem bN (ht:eQ g tm tmps){x:Operand}{ax:AX}(e:cX x=some ax):bu g (ev ax tm) (gt tmps x):=by
 cases x with
 |tmp t=>cases e;exact ht t
 |const v=>
  have e:aq (ofV v) (fun a=>some (AX.c a))=some ax:=e;obtain⟨a,ha,e⟩:=ah e;cases e;exact uO g ha
 |global g=>cases e
 |func f=>cases e;exact .fn .nil .nil
theorem mV (ht:eQ g tm tmps):∀{l:List Operand} {r:List AX},jx cX l=some r->aR g (evs r tm) (l.map (gt tmps))
 |[],r,e=>by cases e;exact .nil
 |x::l,r,e=>by
  obtain⟨b,r',hb,hr,rfl⟩:=bT e;exact .cons (bN ht hb) (mV ht hr)
theorem dJ {r:Option AV}{h1:AH}(e:okV r h=.val v h1):r=some v/\h1=h:=by
 cases r with
 |none=>cases e
 |some x=>cases e;exact⟨rfl,rfl⟩
theorem zo {r:Option AH}{h1:AH}(e:okH r=.val v h1):r=some h1/\v=.tup []:=by
 cases r with
 |none=>cases e
 |some x=>cases e;exact⟨rfl,rfl⟩
theorem nX {r:Option (AV×AH)}{h1:AH}(e:pJ r=.val v h1):r=some (v,h1):=by
 cases r with
 |none=>cases e
 |some x=>cases e;rfl
theorem abm (s:Sim C g U h w)(ht:eQ g tm tmps){o:Oper}{x:Operand}{ax:AX}(ho:o.op=.move x∨o.op=.assign x)(hx:cX x=some ax):
  im C g U h ((execOp (gt tmps) o).run C.P w) (ev ax tm) h:=by
 refine aY s ?_ (bN ht hx);rcases ho with ho|ho<;>simp[execOp,ho]
theorem py {a:AV}{b:Bool}(e:BF a=some b):a=.bool b:=by cases a<;>first|(cases e;done)|(cases e;rfl)
theorem iw {a:AV}{p:IntKind×Int}(e:zc a=some p):a=.int p.1 p.2:=by cases a<;>first|(cases e;done)|(cases e;rfl)
theorem kj {a:AV}{s:ByteArray}(e:yr a=some s):a=.str s:=by cases a<;>first|(cases e;done)|(cases e;rfl)
theorem ki {a:AV}{l:List AV}(e:Ma a=some l):a=.agg l:=by cases a<;>first|(cases e;done)|(cases e;rfl)
theorem Jx {a:AV}{l:List AV}(e:ME a=some l):a=.tup l:=by cases a<;>first|(cases e;done)|(cases e;rfl)
theorem DU {a:AV}{k:Nat}(e:abo a=some k):a=.map k:=by cases a<;>first|(cases e;done)|(cases e;rfl)
theorem oz {a:AV}{n:Nat}(e:Zo a=some n):∃k,a=.int k (n:Int):=by
 cases a<;>first|(cases e;done)|skip
 case int k m=>cases m<;>cases e;exact⟨k,rfl⟩
theorem WT (s:Sim C g U h w)(ht:eQ g tm tmps){o:Oper}{x y z:Operand}{ax ay az:AX}(ho:o.op=.pick x y z)(hx:cX x=some ax)(hy:cX y=some ay)
  (hz:cX z=some az) {h':AH} (e:nv (ev ax tm) h (ev ay tm) (ev az tm)=.val v h'):im C g U h ((execOp (gt tmps) o).run C.P w) v h':=by
 have rx:=bN ht hx;have ry:=bN ht hy;have rz:=bN ht hz;generalize ev ax tm=a at rx e;cases a<;>first|(cases e;done)|skip
 case bool c=>
  cases e;refine aY (u:=if c then gt tmps y else gt tmps z) s ?_ ?_
  ·simp[execOp,ho,rx.bool_inv,asBool]
  ·cases c
   ·exact rz
   ·exact ry
theorem xJ (s:Sim C g U h w){z:Value}{zs:List AV}(t:TypeId)(hz:aR g zs z.cells.toList)(ha:aO zs=true):
  ∃g' w',(newVar t z).run C.P w=.ok ⟨w.heap.size,0,none⟩ w'/\Ext g g'/\Sim C g' U (h.new (.box zs)) w'/\bu g' (.ptr h.z 0 0) (.pointer (some ⟨w.heap.size,0,none⟩)):=by
 obtain⟨ex,s'⟩:=s.alloc (.box zs) (.cells z.cells t) ⟨w.heap.size,0,0,0⟩ rfl rfl
  ⟨rfl,z.cells,t,heap_alloc_new _ _,hz.mono (g.at_ext _ (s.rfresh 0)),ha,fun o v q=>by
   have q:g.F w.heap.size o=some v:=q;exact absurd (s.frz_lt q) (Nat.lt_irrefl _)⟩
 refine⟨_,_,?_,ex,s',?_⟩
 ·simp[newVar,newRow]
 ·exact .ptr (l:=⟨w.heap.size,0,0,0⟩) (g.at_same _ _ _)
theorem adt (s:Sim C g U h w){o:Oper}{t:TypeId}{z:AV}(ho:o.op=.alloc t)(hz:jS C.T t=some z):
  im C g U h ((execOp (gt tmps) o).run C.P w) (.ptr h.z 0 0) (h.new (.box z.cells)):=by
 obtain⟨i,zv,hi,hzv,hr,_,hc,_⟩:=iM g hz;have hl:z.lies=true:=by
  cases z<;>first|rfl|(simp[AV.cells,bQ,AV.isCell]at hc)
 obtain⟨g',w',hrun,ex,s',hv⟩:=xJ s t (hr.cells hl) hc;refine⟨g',w',_,.inl ?_,ex,s',hv,Low.new _ _⟩;simp[execOp,ho,Instr.alloc,dt hi hzv,hrun]
theorem adz (s:Sim C g U h w)(ht:eQ g tm tmps){o:Oper}{t:TypeId}{x:Operand}{ax:AX}{n:Nat}(ho:o.op=.box t x)(hx:cX x=some ax)
  {h':AH} (e:gU h n (ev ax tm)=.val v h'):im C g U h ((execOp (gt tmps) o).run C.P w) v h':=by
 have rx:=bN ht hx;unfold gU at e;cases hc:(and (Nat.beq (len (ev ax tm).cells) n) (ev ax tm).lies) with
 |false=>rw[hc]at e;cases e
 |true=>
  rw[hc]at e;obtain⟨_,hl⟩:=dd hc;cases e;obtain⟨g',w',hrun,ex,s',hv⟩:=xJ s t (rx.cells hl) (rx.fine hl);refine⟨g',w',_,.inl ?_,ex,s',hv,Low.new _ _⟩;simp[execOp,ho,Instr.box,hrun]
end
section lists
variable {g:Gh}
theorem wz (vs:List AV):∀cs:List AV,aO vs=true->aO cs=true->aO (over vs cs)=true:=by
 induction vs with
 |nil=>intro cs _ h;exact h
 |cons v vs ih=>intro cs h1 h2;cases cs with
  |nil=>rfl
  |cons c cs=>
   rw[lK];simp only[bQ,Bool.and_eq_true]at h1 h2 ⊢;exact⟨h1.1,ih cs h1.2 h2.2⟩
theorem lu (off:Nat)(vs:List AV)(hv:aO vs=true):∀cs:List AV,aO cs=true->aO (setR off vs cs)=true:=by
 induction off with
 |zero=>intro cs h;exact wz vs cs hv h
 |succ n ih=>intro cs h;cases cs with
  |nil=>rfl
  |cons c cs=>
   rw[gK,bQ];simp only[bQ,Bool.and_eq_true]at h ⊢;exact⟨h.1,ih cs h.2⟩
theorem xU (off:Nat):∀(l:List Value) (n:Nat) (cs:Array Value),off+n+l.length<=cs.size->
  ((l.zipIdx n).foldl (fun cs (p:Value×Nat)=>cs.setIfInBounds (off+p.2) p.1) cs).toList=setR (off+n) l cs.toList
 |[],n,cs,_=>by rw[xq];rfl
 |v::l,n,cs,h=>by
  simp only[List.length_cons]at h;rw[List.zipIdx_cons,List.foldl_cons,xU off l (n+1) _ (by simp;omega)];have:=xk (off+n) v l cs.toList (by simp;omega);rw[<-this,Nat.add_assoc];congr 1;simp
theorem Ee (off:Nat)(vs:Array Value)(cs:Array Value)(h:off+vs.size<=cs.size):
  (vs.zipIdx.foldl (fun cs (c,j)=>cs.setIfInBounds (off+j) c) cs).toList=setR off vs.toList cs.toList:=by
 rw[<-Array.foldl_toList,Array.toList_zipIdx];exact xU off vs.toList 0 cs (by simpa using h)
inductive yD (g:Gh)(place:Nat->Option (Nat×Nat)):List (Nat×Nat×AV)->List (Nat×Value)->Prop
 |nil:yD g place [] []
 |cons {off n i:Nat} {a:AV} {u:Value} {l:List (Nat×Nat×AV)} {r:List (Nat×Value)} (hp:place i=some (off,n)) (h:bu g a u) (t:yD g place l r) :
   yD g place ((off,n,a)::l) ((i,u)::r)
theorem Eh (p:Nat×Nat×AV)(l:List (Nat×Nat×AV))(cs:List AV):fillA (p::l) cs =
  cond (and (Nat.beq (len p.2.2.cells) p.2.1) (and (Nat.ble (Nat.add p.1 p.2.1) (len cs)) p.2.2.lies)) (fillA l (setR p.1 p.2.2.cells cs)) none:=rfl
theorem qZ {place:Nat->Option (Nat×Nat)}: ∀{l:List (Nat×Nat×AV)} {r:List (Nat×Value)},yD g place l r->∀{cs cs':List AV} {us:Array Value},
  fillA l cs=some cs'->aR g cs us.toList->aO cs=true->∃us',Instr.fill place us r=some us'/\aR g cs' us'.toList/\aO cs'=true/\cs'.length=cs.length
 |_,_,.nil,cs,cs',us,e,hv,ha=>by cases e;exact⟨us,rfl,hv,ha,rfl⟩
 |_,_,.cons (off:=off) (n:=n) (i:=i) (a:=a) (u:=u) (l:=l) (r:=r) hp h t,cs,cs',us,e,hv,ha=>by
  rw[Eh]at e;obtain⟨hc,e⟩:=aH e;obtain⟨h1,hc⟩:=dd hc;obtain⟨h2,h3⟩:=dd hc;have h1:=beq_eq h1;have h2:=eG h2;rw[bH]at h1 h2;simp only at h1 h2 h3 e;have h2:off+n<=cs.length:=h2;have hcells:=h.cells h3;have hlen:=hcells.length;have hulen:=hv.length;have hsz:u.cells.size=n:=by rw[<-h1,hlen];simp
  have hle:off+u.cells.size<=us.size:=by rw[hsz];simp at hulen;omega
  have e2:=Ee off u.cells us hle;obtain⟨us',f1,f2,f3,f4⟩:=qZ t (us:=u.cells.zipIdx.foldl (fun cs (c,j)=>cs.setIfInBounds (off+j) c) us) e (by rw[e2];exact hcells.setR off hv)
   (lu off _ (h.fine h3) cs ha)
  refine⟨us',?_,f2,f3,by rw[f4,jq]⟩;simp only[Instr.fill,hp];rw[wad]
  ·exact f1
  ·simp[hsz];omega
theorem ox (n:Nat)(z:List AV):pI (n+1) z=z++pI n z:=by show app z (pI n z)=_;rw[fk]
theorem iT (z:List AV)(h:aO z=true):∀n,aO (pI n z)=true
 |0=>rfl
 |n+1=>by rw[ox,eY,h,iT z h n];rfl
theorem js (z:List AV):∀n,(pI n z).length=n*z.length
 |0=>by rw[Nat.zero_mul];rfl
 |n+1=>by rw[ox,List.length_append,js z n,Nat.succ_mul,Nat.add_comm]
theorem ua (zs:Array Value)(m:Nat)(hm:zs.size=m):∀n,aR g (List.replicate 0 AV.any) []->∀{z:List AV},aR g z zs.toList->
  aR g (pI n z) ((List.range (n*m)).map fun i=>zs[i % zs.size]!)
 |0,_,z,_=>by rw[Nat.zero_mul];exact .nil
 |n+1,q,z,h=>by
  rw[ox,Nat.succ_mul,Nat.add_comm (n*m) m,List.range_add,List.map_append];refine aR.append ?_ ?_
  ·have e:(List.range m).map (fun i=>zs[i % zs.size]!)=zs.toList:=by
    apply List.ext_getElem?;intro i;rw[List.getElem?_map];by_cases hi:i<m
    ·rw[List.getElem?_range hi];have:i<zs.size:=by omega
     simp[Nat.mod_eq_of_lt this,this]
    ·rw[List.getElem?_eq_none (by simp;omega)];simp;omega
   rw[e];exact h
  ·rw[List.map_map];have e:((fun i=>zs[i % zs.size]!)∘fun x=>m+x)=fun i=>zs[i % zs.size]!:=by
    funext i;show zs[(m+i) % zs.size]! = _;rw[<-hm,Nat.add_mod_left]
   rw[e];exact ua zs m hm n q h
theorem se {z:List AV}{zs:Array Value}(h:aR g z zs.toList)(n:Nat):
  aR g (pI n z) ((Array.range (n*zs.size)).map fun i=>zs[i % zs.size]!).toList:=by
 rw[Array.toList_map,Array.toList_range];exact ua zs zs.size rfl n .nil h
end lists
section
variable {C:Cx}{g:Gh}{U:Nat->Option (List AV)}{h h':AH}{w:World}{tm:Tm}{tmps:Array Value}{v:AV}
theorem Im (ht:eQ g tm tmps){fs:Array Field}{pl:Array (Nat×Nat)}(hpl:∀(i:Nat) (f:Field) (n:Nat),fs.toList[i]?=some f->szT C.T f.type=some n->pl[i]?=some (f.offset,n)):
  ∀{l:List (Nat×Operand)} {r:List (Nat×Nat×AX)},jx (Hh C.T fs.toList) l=some r->yD g (pl[·]?) (eW r tm) (l.map fun(i,x)=>(i,gt tmps x))
 |[],r,e=>by cases e;exact .nil
 |(i,x)::l,r,e=>by
  obtain⟨b,r',hb,hr,rfl⟩:=bT e;obtain⟨f,hf,hb⟩:=ah hb;obtain⟨n,hn,hb⟩:=ah hb;obtain⟨ax,hx,hb⟩:=ah hb;cases hb;exact .cons (hpl i f n hf hn) (bN ht hx) (Im ht hpl hr)
theorem Ip (ht:eQ g tm tmps){n:Nat}:
  ∀{l:List (Nat×Operand)} {r:List (Nat×Nat×AX)},jx (Hi n) l=some r->yD g (fun i=>some (i*n,n)) (eW r tm) (l.map fun(i,x)=>(i,gt tmps x))
 |[],r,e=>by cases e;exact .nil
 |(i,x)::l,r,e=>by
  obtain⟨b,r',hb,hr,rfl⟩:=bT e;obtain⟨ax,hx,hb⟩:=ah hb;cases hb;exact .cons rfl (bN ht hx) (Ip ht hr)
theorem Io (ht:eQ g tm tmps){n:Nat}:
  ∀{l:List (Nat×Operand)} {r:List (Nat×AX)},jx CU l=some r->yD g (fun i=>some (i*n,n)) (cr r tm n) (l.map fun(i,x)=>(i,gt tmps x))
 |[],r,e=>by cases e;exact .nil
 |(i,x)::l,r,e=>by
  obtain⟨b,r',hb,hr,rfl⟩:=bT e;obtain⟨ax,hx,hb⟩:=ah hb;cases hb;exact .cons rfl (bN ht hx) (Io ht hr)
theorem tc (w:World):∀(fs:List Field) (ns:List Nat),jx (fun f=>szT C.T f.type) fs=some ns->
  ∃pl:List (Nat×Nat),(fs.mapM fun f=>Functor.map (Prod.mk f.offset) (sizeOf f.type)).run C.P w=.ok pl w/\
   ∀(i:Nat) (f:Field) (n:Nat),fs[i]?=some f->szT C.T f.type=some n->pl[i]?=some (f.offset,n)
 |[],ns,_=>⟨[],by simp,fun i f n hf=>by simp at hf⟩
 |f::fs,ns,e=>by
  obtain⟨n,ns',hn,hr,rfl⟩:=bT e;obtain⟨pl,h1,h2⟩:=tc w fs ns' hr;refine⟨(f.offset,n)::pl,?_,fun i f' n' hf hn'=>?_⟩
  ·simp[List.mapM_cons,bU hn,h1]
  ·cases i with
   |zero=>simp at hf;subst hf;rw[hn]at hn';cases hn';rfl
   |succ i=>simpa using h2 i f' n' (by simpa using hf) hn'
theorem th {z:List AV}{ps:List (Nat×Nat×AV)}(e:cP h z ps=.val v h'):∃cs,fillA ps z=some cs/\v=.agg cs/\h'=h:=by
 unfold cP at e;cases hf:fillA ps z with
 |none=>rw[hf]at e;cases e
 |some cs=>rw[hf]at e;cases e;exact⟨cs,rfl,rfl,rfl⟩
theorem NP (s:Sim C g U h w)(ht:eQ g tm tmps){o:Oper}{t:TypeId}{parts:Array (Nat×Operand)}{aop:AOp}(ho:o.op=.build t parts)(hc:TP C.T t parts=some aop)
  (e:evOp aop tm h=.val v h'):im C g U h ((execOp (gt tmps) o).run C.P w) v h':=by
 obtain⟨z,hz,hc⟩:=ah hc;obtain⟨d,hd,hc⟩:=ah hc;obtain⟨i,zv,hi,hzv,hr,hlen,hcl,_⟩:=iM g hz;have hl:z.lies=true:=by cases z<;>first|rfl|(simp[AV.cells,bQ,AV.isCell]at hcl)
 have hzr:=hr.cells hl;cases d<;>first|(cases hc;done)|skip
 case struct fs=>
  have hc:aq (jx (fun(f:Field)=>szT C.T f.type) fs.toList) (fun _=>aq (jx (Hh C.T fs.toList) parts.toList) fun ps=>some (.build z.cells ps))=some aop:=hc;obtain⟨ns,hns,hc⟩:=ah hc;obtain⟨ps,hps,hc⟩:=ah hc;cases hc;obtain⟨cs,hf,rfl,rfl⟩:=th (h:=h) (z:=z.cells) (ps:=eW ps tm) e;obtain⟨pl,hpl1,hpl2⟩:=tc (C:=C) w fs.toList ns hns;obtain⟨us',f1,f2,f3,_⟩:=qZ (Im (pl:=⟨pl⟩) ht (by simpa using hpl2) hps) hf hzr hcl;refine aY (u:=.agg us') s ?_ ?_
  ·have hm:parts.toList.map (fun(i,x)=>(i,gt tmps x))=(parts.map fun(i,x)=>(i,gt tmps x)).toList:=by simp
   rw[hm]at f1;simp[execOp,ho,Instr.build,dt hi hzv,bh hd,Array.mapM_eq_mapM_toList,hpl1];simp at f1;simp[f1]
  ·obtain⟨us'⟩:=us';exact .agg f3 f2
 case array n el=>
  have hc:aq (szT C.T el) (fun n=>aq (jx (Hi n) parts.toList) fun ps=>some (.build z.cells ps))=some aop:=hc;obtain⟨m,hm,hc⟩:=ah hc;obtain⟨ps,hps,hc⟩:=ah hc;cases hc;obtain⟨cs,hf,rfl,rfl⟩:=th (h:=h) (z:=z.cells) (ps:=eW ps tm) e;obtain⟨us',f1,f2,f3,_⟩:=qZ (Ip ht hps) hf hzr hcl;refine aY (u:=.agg us') s ?_ ?_
  ·have hm':parts.toList.map (fun(i,x)=>(i,gt tmps x))=(parts.map fun(i,x)=>(i,gt tmps x)).toList:=by simp
   rw[hm']at f1;simp[execOp,ho,Instr.build,dt hi hzv,bh hd,bU hm];simp at f1;simp[f1]
  ·obtain⟨us'⟩:=us';exact .agg f3 f2
end
theorem Sim.live {C:Cx}{g:Gh}{U:Nat->Option (List AV)}{h:AH}{w:World}(s:Sim C g U h w){k n:Nat}{l:Loc}(e:g.ρ k n=some l):U k=none:=by
 cases hj:U k with
 |none=>rfl
 |some z=>rw[(s.unb k z hj).2]at e;cases e
theorem jc {v:AV}(h:v.isAgg=false):v.cells=[v]:=by cases v<;>first|rfl|(simp[AV.isAgg]at h)
theorem vA {agg:Bool}{sz off:Nat}{cs:List AV}{v:AV}(h:pN agg sz off cs=some v)(ha:aO cs=true):
  v.cells=(cs.drop off).take sz/\v.cells.length=sz/\off+sz<=cs.length/\v.isAgg=agg/\aO v.cells=true/\(agg=false->sz=1):=by
 cases agg with
 |true=>
  have h:cond (Nat.ble (Nat.add off sz) (len cs)) (some (AV.agg (tke sz (drp off cs)))) none=some v:=h;obtain⟨h1,h2⟩:=aH h;have h1:=eG h1;rw[bH]at h1;have h1:off+sz<=cs.length:=h1;cases h2;rw[lz,fM];have hc:aO ((cs.drop off).take sz)=true:=by
   rw[dw]at ha ⊢;exact fun a hm=>ha a (List.mem_of_mem_drop (List.mem_of_mem_take hm))
  exact⟨rfl,by simp[AV.cells];omega,h1,rfl,hc,fun x=>by cases x⟩
 |false=>
  have h:cond (Nat.beq sz 1) (pK off cs) none=some v:=h;obtain⟨h1,h2⟩:=aH h;have h1:=beq_eq h1;subst h1;rw[iQ]at h2;have hi':off<cs.length:=by
   rcases Nat.lt_or_ge off cs.length with x|x
   ·exact x
   ·rw[List.getElem?_eq_none x]at h2;cases h2
  have e':(cs.drop off).take 1=[v]:=by
   rw[wO hi']at h2;cases h2;rw[List.drop_eq_getElem_cons hi'];rfl
  have hc:v.isCell=true:=(dw cs).1 ha v (wS h2);have hagg:v.isAgg=false:=by cases v<;>first|rfl|(simp[AV.isCell]at hc)
  have hcells:=jc hagg;exact⟨by rw[hcells,e'],by rw[hcells];rfl,by omega,hagg,by rw[hcells,bQ,hc];rfl,fun _=>rfl⟩
theorem pw (agg:Bool)(sz n:Nat)(cs:List AV):chunk agg sz (n+1) cs=aq (pN agg sz 0 cs) fun v=>aq (chunk agg sz n (drp sz cs)) fun r=>some (v::r):=rfl
structure Chunk (agg:Bool)(sz n:Nat)(cs es:List AV):Prop where
 flat:flat es=cs.take (n*sz)
 len:es.length=n
 size:∀e∈es,e.cells.length=sz
 le:n*sz<=cs.length
 fine:∀e∈es,aO e.cells=true
 agg:∀e∈es,e.isAgg=agg
theorem kh {agg:Bool}{sz:Nat}: ∀{n:Nat} {cs es:List AV},chunk agg sz n cs=some es->aO cs=true->Chunk agg sz n cs es
 |0,cs,es,h,ha=>by
  cases h;exact⟨by simp[mc],rfl,fun e he=>by simp at he,by simp,fun e he=>by simp at he,fun e he=>by simp at he⟩
 |n+1,cs,es,h,ha=>by
  rw[pw]at h;obtain⟨v,hv,h⟩:=ah h;obtain⟨r,hr,h⟩:=ah h;cases h;rw[fM]at hr;obtain⟨g1,g2,g3,g4,g5,_⟩:=vA hv ha;have ha':aO (cs.drop sz)=true:=by
   rw[dw]at ha ⊢;exact fun a hm=>ha a (List.mem_of_mem_drop hm)
  have ih:=kh hr ha';have hle:=ih.le;simp only[List.length_drop]at hle;refine⟨?_,by simp[ih.len],?_,by rw[Nat.succ_mul];omega,?_,?_⟩
  ·rw[bO,ih.flat,g1,List.drop_zero,Nat.succ_mul,Nat.add_comm (n*sz) sz,List.take_add]
  ·intro e he;cases he with
   |head=>exact g2
   |tail _ he=>exact ih.size e he
  ·intro e he;cases he with
   |head=>exact g5
   |tail _ he=>exact ih.fine e he
  ·intro e he;cases he with
   |head=>exact g4
   |tail _ he=>exact ih.agg e he
theorem fw {cs:List AV}(h:aO cs=true)(n:Nat):aO (cs.take n)=true:=by
 rw[dw]at h ⊢;exact fun a hm=>h a (List.mem_of_mem_take hm)
theorem du {cs:List AV}(h:aO cs=true)(n:Nat):aO (cs.drop n)=true:=by
 rw[dw]at h ⊢;exact fun a hm=>h a (List.mem_of_mem_drop hm)
theorem Ny {g:Gh}{v:AV}{us:List Value}(hv:aR g v.cells us)(hc:aO v.cells=true):bu g v (vU v.isAgg us):=by
 cases ha:v.isAgg with
 |true=>
  cases v<;>first|(simp[AV.isAgg]at ha;done)|skip
  case agg cs=>exact .agg hc hv
 |false=>
  rw[jc ha]at hv;cases hv with
  |cons h t=>cases t;exact h
theorem iA {n:Nat}(f:Nat->Value)(h:n=0):(Array.range n).map f=#[]:=by
 subst h;apply Array.ext';rw[Array.toList_map,Array.toList_range];rfl
section
variable {C:Cx}{g:Gh}{U:Nat->Option (List AV)}{h h':AH}{w:World}{tm:Tm}{tmps:Array Value}{v:AV}
theorem lJ {z:AV}(hc:aO z.cells=true):z.lies=true:=by
 cases z<;>first|rfl|(simp[AV.cells,bQ,AV.isCell]at hc)
theorem sA (s:Sim C g U h w)(t:TypeId){sz n:Nat}{agg:Bool}{cs:List AV}{us:Array Value}(hp:0<sz)(cap:Nat)(hn:n<=cap)(hu:cap*sz<=us.size)
  (hl:cs.length<=cap*sz) (hv:aR g cs (us.toList.take cs.length)) (ha:aO cs=true) :
  ∃g' w',(newRow t us).run C.P w=.ok ⟨w.heap.size,0,none⟩ w'/\Ext g g'/\Sim C g' U (h.new (.row 0 sz agg cs 0)) w'/\
   bu g' (.row h.z 0 sz 0 n) (.slice (some ⟨w.heap.size,0,none⟩) n cap):=by
 have ex:=g.at_ext ⟨w.heap.size,0,cap,sz⟩ (s.rfresh 0);obtain⟨ex,s'⟩:=s.alloc (.row 0 sz agg cs 0) (.cells us t) ⟨w.heap.size,0,cap,sz⟩ rfl rfl
  ⟨rfl,hp,us,t,heap_alloc_new _ _,by simpa using hu,hl,by rw[List.drop_zero];exact hv.mono ex,ha,fun o v q=>by
   have q:g.F w.heap.size o=some v:=q;exact absurd (s.frz_lt q) (Nat.lt_irrefl _),fun m hm=>by
    rw[Gh.at_other g _ (by omega)];exact s.rfresh m⟩
 refine⟨_,_,by simp[newRow],ex,s',?_⟩;have:=bu.row (g:=g.at h.z 0 ⟨w.heap.size,0,cap,sz⟩) (k:=h.z) (n:=0) (sz:=sz) (off:=0) (len:=n) (g.at_same _ _ _) rfl (by simpa using hn);simpa using this
theorem adx (s:Sim C g U h w)(ht:eQ g tm tmps){o:Oper}{t:TypeId}{n:Nat}{parts:Array (Nat×Operand)}{aop:AOp}{frz:Bool}(ho:o.op=.buildSlice t n parts)
  (hc:cLit C.T frz t n parts=some aop) (e:evOp aop tm h=.val v h'):im C g U h ((execOp (gt tmps) o).run C.P w) v h':=by
 obtain⟨el,hel,hc⟩:=ah hc;obtain⟨sz,hsz,hc⟩:=ah hc;obtain⟨z,hz,hc⟩:=ah hc;obtain⟨ps,hps,hc⟩:=ah hc;obtain⟨hcond,hc⟩:=aH hc;cases hc;obtain⟨c1,c2⟩:=dd hcond;have c1:n*sz<=16777216:=eG c1;have c2:0<sz:=jL c2;obtain⟨d,hd,hel⟩:=ah hel;cases d<;>first|(cases hel;done)|skip
 case slice=>
 cases hel;obtain⟨i,zv,hi,hzv,hr,hlen,hcl,_⟩:=iM g hz;obtain⟨i',d',hi',hsz',_⟩:=lY hsz;rw[hi]at hi';cases hi';have hzr:=hr.cells (lJ hcl);have hzlen:zv.cells.size=sz:=by have:=hzr.length;simp at this;omega
 have e:iS frz (cn C.T el) sz z.cells n (cr ps tm sz) h=.val v h':=e;unfold iS at e;cases hf:fillA (cr ps tm sz) (pI n z.cells) with
 |none=>rw[hf]at e;cases e
 |some cs=>
  rw[hf]at e;simp only at e;obtain⟨us',f1,f2,f3,f4⟩:=qZ (Io (n:=sz) ht hps) hf (se hzr n) (iT _ hcl n);rw[js,hlen,hsz']at f4;have hus:us'.size=n*sz:=by have:=f2.length;simp at this;omega
  have f1:Instr.fill (fun i=>some (i*sz,sz)) ((Array.range (n*zv.cells.size)).map fun i=>zv.cells[i % zv.cells.size]!)
   (parts.toList.map fun x=>(x.1,gt tmps x.2))=some us':=f1
  have run:∀w',(newRow el us').run C.P w=.ok ⟨w.heap.size,0,none⟩ w'->
    (execOp (gt tmps) o).run C.P w=.ok (.value (.slice (some ⟨w.heap.size,0,none⟩) n n)) w':=by
   intro w' hw';have hnle:¬(n*sz > 2 ^ 24):=by simp;omega
   by_cases h0:n*sz=0
   ·have hn0:n=0:=by
     rcases Nat.mul_eq_zero.1 h0 with x|x
     ·exact x
     ·omega
    subst hn0;have r0:(Array.range (0*zv.cells.size)).map (fun i=>zv.cells[i % zv.cells.size]!)=#[]:=iA _ (Nat.zero_mul _);rw[r0]at f1;have r1:∀f:Nat->Value,(Array.range 0).map f=#[]:=fun f=>iA f rfl
    simp[execOp,ho,Instr.buildSlice,bh hd,bU hsz,r1,f1,hw']
   ·simp only[hzlen]at f1;simp[execOp,ho,Instr.buildSlice,bh hd,bU hsz,h0,hnle,dt hi hzv,hzlen,f1,hw']
  cases frz with
  |true=>
   simp only[cond_true]at e;cases hch:chunk (cn C.T el) sz n cs with
   |none=>rw[hch]at e;cases e
   |some es=>
    rw[hch]at e;cases e;have ch:=kh hch f3;have hfl:flat es=cs:=by rw[ch.flat,List.take_of_length_le (by omega)]
    obtain⟨ex,s'⟩:=s.allocFz us' el;refine⟨_,_,_,.inl (run _ (by simp[newRow])),ex,s',?_,.refl h⟩;refine .clip ch.size (by rw[hfl];exact f3) ch.len.symm ch.len ?_;rw[hfl];exact fm.mk (f2.mono ex) fun i u hu=>by simpa using Gh.fz_at g w.heap.size 0 us'.toList hu
  |false=>
   simp only[cond_false]at e;cases e;obtain⟨g',w',hw',ex,s',hv⟩:=sA (agg:=cn C.T el) s el c2 n (Fv _) (by omega) (cs:=cs) (us:=us') (by omega)
    (by rw[List.take_of_length_le (by simp;omega)];exact f2) f3
   exact⟨g',w',_,.inl (run w' hw'),ex,s',hv,Low.new _ _⟩
end
section
variable {C:Cx}{g:Gh}{U:Nat->Option (List AV)}{h h':AH}{w:World}{tm:Tm}{tmps:Array Value}{v:AV}
theorem DY (s:Sim C g U h w){x:AV}{u:Value}{agg:Bool}{sz:Nat}(hx:bu g x u)(e:dH x h agg sz=some v):
  ∃b off us,u=.pointer (some ⟨b,off,none⟩)/\us.length=sz/\(∀i y,us[i]?=some y->w.cell? ⟨b,off+i,none⟩=some y)/\aR g v.cells us/\aO v.cells=true/\v.isAgg=agg/\(agg=false->sz=1):=by
 cases x<;>first|(cases e;done)|skip
 case vptr a=>
  obtain⟨hc,e⟩:=aH (c:=and (oG a.isAgg agg) (Nat.beq (len a.cells) sz)) e;cases e;obtain⟨h1,h2⟩:=dd hc;have h1:=vh h1;have h2:=beq_eq h2;rw[bH]at h2;obtain⟨b,off,ha,hr,rfl⟩:=hx.vptr_inv;obtain⟨us,hv,hF⟩:=hr.vals;refine⟨b,off,us,rfl,by rw[<-hv.length];exact h2,fun i y hi=>s.frz _ _ _ (hF i y hi),hv,ha,h1,fun hq=>?_⟩;rw[hq]at h1;rw[jc h1]at h2;exact h2.symm
 case ptr k n off=>
  obtain⟨o,ho,e⟩:=ah (o:=h.get k) e;obtain⟨l,hl,rfl⟩:=hx.ptr_inv;have hu:=s.live hl;obtain⟨l',h1,h2,h3⟩:=s.obj k o ho hu;cases o<;>first|(cases e;done)|skip
  case box cs=>
   obtain⟨hn,e'⟩:=aH (c:=Nat.beq n 0) e;clear e;have e:=e';have hn:=beq_eq hn;subst hn;have h1:g.ρ k 0=some l':=h1;rw[hl]at h1;cases h1;obtain⟨hb,us,t,e1,hv,ha,_⟩:=h3;obtain⟨g1,g2,g3,g4,g5,g6,g7,g8⟩:=vz e' hv ha;refine⟨l.block,l.base+off,_,rfl,g1,fun i y hi=>?_,by rw[g8];exact(hv.drop off).take sz,g6,g4,g5⟩;rw[cell_of_row _ _ _ us t (0,0) e1,hb];rw[List.getElem?_take]at hi;split at hi
   ·rw[List.getElem?_drop]at hi;rw[wac];simpa using hi
   ·cases hi
  case row n' sz' agg' cs fz=>
   obtain⟨hn,e'⟩:=aH (c:=Nat.beq n n') e;clear e;have e:=e';have hn:=beq_eq hn;subst hn;have h1:g.ρ k n=some l':=h1;rw[hl]at h1;cases h1;obtain⟨_,_,us,t,e1,q1,q2,hv,ha,_,_⟩:=h3;obtain⟨g1,g2,g3,g4,g5,g6,g7,g8⟩:=vz e' hv ha;refine⟨l.block,l.base+off,_,rfl,g1,fun i y hi=>?_,by rw[g8];exact(hv.drop off).take sz,g6,g4,g5⟩;rw[cell_of_row _ _ _ us t (0,0) e1];rw[List.getElem?_take]at hi;split at hi
   ·rw[List.getElem?_drop,List.getElem?_take]at hi;split at hi
    ·rw[List.getElem?_drop]at hi;rw[Nat.add_assoc];simpa using hi
    ·cases hi
   ·cases hi
theorem CF (s:Sim C g U h w){t:TypeId}{n:Nat}{x:AV}{u:Value}(hn:szT C.T t=some n)(hx:bu g x u)(e:dH x h (cn C.T t) n=some v):
  ∃a y,u=.pointer (some a)/\(loadVar t a).run C.P w=.ok y w/\bu g v y:=by
 obtain⟨b,off,us,rfl,h1,h2,h3,h4,h5,h6⟩:=DY s hx e;refine⟨_,vU (cn C.T t) us,rfl,tT (by rw[h1];exact hn) (fun q=>by rw[h1];exact h6 q) h2,?_⟩;have:=Ny h3 h4;rw[h5]at this;exact this
theorem WY (s:Sim C g U h w)(ht:eQ g tm tmps){o:Oper}{t:TypeId}{x:Operand}{ax:AX}{n:Nat}(ho:o.op=.load t x)(hn:szT C.T t=some n)(hx:cX x=some ax)
  (e:okV (dH (ev ax tm) h (cn C.T t) n) h=.val v h'):im C g U h ((execOp (gt tmps) o).run C.P w) v h':=by
 obtain⟨e',rfl⟩:=dJ e;clear e;have e:=e';obtain⟨a,y,hu,hrun,hv⟩:=CF s hn (bN ht hx) e;exact aY s (by simp[execOp,ho,Instr.loadAt,Instr.sureAddr,hu,hrun]) hv
theorem oF {cs:List AV}{us:List Value}(hv:aR g cs us)(ha:aO cs=true):∀u∈us,u.oneCell'=true:=by
 intro u hu;obtain⟨i,hi⟩:=List.getElem?_of_mem hu;obtain⟨x,hx,hr⟩:=hv.get' hi;exact hr.oneCell ((dw cs).1 ha x (wS hx))
theorem xa (s:Sim C g U h w){k n off:Nat}{o o':eI}{l:Loc}{vs:List AV}{ws:List Value}(ho:h.get k=some o)(hl:g.ρ k n=some l)
  (e:storeAt o n off vs=some o') (hv:aR g vs ws) (ha:aO vs=true) :
  ∃w',(storeCells ⟨l.block,l.base+off,none⟩ ws).run C.P w=.ok () w'/\Sim C g U (h.set k o') w':=by
 have hu:=s.live hl;obtain⟨l',h1,h2,h3⟩:=s.obj k o ho hu;have hone:=oF hv ha;have hlen:=hv.length;cases o<;>first|(cases e;done)|skip
 case box cs=>
  obtain⟨hn,e'⟩:=aH (c:=and (Nat.beq n 0) (Nat.ble (Nat.add off (len vs)) (len cs))) e;clear e;have e:=e';obtain⟨hn,hle⟩:=dd hn;have hn:=beq_eq hn;have hle:=eG hle;rw[bH,bH]at hle;have hle:off+vs.length<=cs.length:=hle;subst hn;cases e;have h1:g.ρ k 0=some l':=h1;rw[hl]at h1;cases h1;obtain⟨hb,us,t,e1,hvs,hcs,hF⟩:=h3;have hul:=hvs.length;simp only[Array.length_toList]at hul;have hrun:=fT (C:=C) (b:=l.block) (off:=l.base+off) (t:=t) ws 0 w us e1 (by omega) hone;refine⟨_,hrun,?_⟩;simp only[hb,wac,Nat.add_zero];have hlt:l.block<w.heap.size:=(Array.getElem?_eq_some_iff.1 e1).1;refine s.put ho hu hl rfl ⟨hb,_,t,eK hlt,?_,lu off vs ha cs hcs,hF⟩ (fun i y q=>absurd q (hF i y));exact hv.setR off hvs
 case row n' sz agg cs fz=>
  obtain⟨hn,e'⟩:=aH (c:=and (Nat.beq n n') (and (Nat.ble fz off) (Nat.ble (Nat.add off (len vs)) (len cs)))) e;clear e;have e:=e';obtain⟨hn,hle⟩:=dd hn;obtain⟨hfz,hle⟩:=dd hle;have hn:=beq_eq hn;have hfz:=eG hfz;have hle:=eG hle;rw[bH,bH]at hle;have hle:off+vs.length<=cs.length:=hle;subst hn;cases e;have h1:g.ρ k n=some l':=h1;rw[hl]at h1;cases h1;obtain⟨hs,hp,us,t,e1,q1,q2,hvs,hcs,hF,hr⟩:=h3;have hul:=hvs.length;simp only[List.length_take,List.length_drop,Array.length_toList]at hul;have hrun:=fT (C:=C) (b:=l.block) (off:=l.base+off) (t:=t) ws 0 w us e1 (by omega) hone;refine⟨_,hrun,?_⟩;simp only[Nat.add_zero];have hlt:l.block<w.heap.size:=(Array.getElem?_eq_some_iff.1 e1).1;have hbnd:l.base+off+ws.length<=us.toList.length:=by simp;omega
  refine s.put ho hu hl rfl ⟨hs,hp,_,t,eK hlt,?_,by rw[jq];exact q2,?_,lu off vs ha cs hcs,hF,hr⟩ (fun i y q=>?_)
  ·show l.base+l.cap*sz<=(setR (l.base+off) ws us.toList).length;rw[jq];simpa using q1
  ·have:((setR (l.base+off) ws us.toList).drop l.base).take (setR off vs cs).length=setR off ws ((us.toList.drop l.base).take cs.length):=by
    rw[jq];apply List.ext_getElem?;intro i;rw[List.getElem?_take,nT off ws _ i (by simp;omega),List.getElem?_take,List.getElem?_drop,List.getElem?_drop,nT _ _ _ _ hbnd];by_cases hi:i<cs.length
    ·rw[wae hi,wae hi];by_cases hj:off<=i/\i<off+ws.length
     ·rw[wae hj,wae (by omega)];congr 1;omega
     ·rw[wad hj,wad (by omega)]
    ·rw[wad hi,wad hi,wad (by omega)]
   rw[this];exact hv.setR off hvs
  ·have hi:=hF i y q;rw[cell_of_row _ _ _ _ t (0,0) (eK hlt)];have:=s.frz _ _ _ q;rw[cell_of_row _ _ _ us t (0,0) e1]at this;have e2:(⟨setR (l.base+off) ws us.toList⟩:Array Value)[i]?=(setR (l.base+off) ws us.toList)[i]?:=by simp
   rw[e2,nT _ _ _ _ hbnd,wad (by omega)];simpa using this
theorem NC (s:Sim C g U h w)(ht:eQ g tm tmps){o:Oper}{t:TypeId}{x y:Operand}{ax ay:AX}{n:Nat}(ho:o.op=.store t x y)(hn:szT C.T t=some n)(hx:cX x=some ax)
  (hy:cX y=some ay) (e:okH (cR (ev ax tm) h n (ev ay tm))=.val v h'):im C g U h ((execOp (gt tmps) o).run C.P w) v h':=by
 obtain⟨e',rfl⟩:=zo e;clear e;have e:=e';have rx:=bN ht hx;have ry:=bN ht hy;generalize ev ax tm=a at rx e;cases a<;>first|(cases e;done)|skip
 case ptr k m off=>
  obtain⟨hc,e⟩:=aH (c:=and (Nat.beq (len (ev ay tm).cells) n) (ev ay tm).lies) e;obtain⟨h1,h2⟩:=dd hc;have h1:=beq_eq h1;rw[bH]at h1;obtain⟨ob,hob,e⟩:=ah e;obtain⟨ob',hob',e⟩:=ah e;cases e;obtain⟨l,hl,hu⟩:=rx.ptr_inv;have hcells:=ry.cells h2;obtain⟨w',hrun,s'⟩:=xa s hob hl hob' hcells (ry.fine h2);have hsz:(gt tmps y).cells.size=n:=by have:=hcells.length;simp at this;omega
  refine⟨g,w',undef,.inr ⟨?_,rfl⟩,.refl g,s',.tup .nil,Low.set _ _ _⟩;simp[execOp,ho,Instr.storeAt,Instr.sureAddr,hu,storeVar,bU hn,hsz,hrun]
theorem Ki (s:Sim C g U h w)(ht:eQ g tm tmps){o:Oper}{x:Operand}{ax:AX}(ho:o.op=.nilCheck x)(hx:cX x=some ax)
  (e:iN (ev ax tm) h=.val v h'):im C g U h ((execOp (gt tmps) o).run C.P w) v h':=by
 have rx:=bN ht hx;generalize ev ax tm=a at rx e;cases a<;>first|(cases e;done)|skip
 case ptr k m off=>
  cases e;obtain⟨l,hl,hu⟩:=rx.ptr_inv;exact aY s (by simp[execOp,ho,hu]) (hu▸rx)
 case vptr a=>
  cases e;obtain⟨b,off,_,_,hu⟩:=rx.vptr_inv;exact aY s (by simp[execOp,ho,hu]) (hu▸rx)
 case fn f a b=>
  cases e;obtain⟨x',y',_,_,hu⟩:=rx.fn_inv;exact aY s (by simp[execOp,ho,hu]) (hu▸rx)
theorem DM (s:Sim C g U h w)(ht:eQ g tm tmps){o:Oper}{x:Operand}{ax:AX}{i:Nat}(ho:o.op=.extract x i)(hx:cX x=some ax)
  (e:okV (aq (ME (ev ax tm)) fun l=>pK i l) h=.val v h'):im C g U h ((execOp (gt tmps) o).run C.P w) v h':=by
 obtain⟨e',rfl⟩:=dJ e;clear e;have e:=e';obtain⟨l,hl,e⟩:=ah e;rw[iQ]at e;have rx:=bN ht hx;rw[Jx hl]at rx;obtain⟨us,hv,hu⟩:=rx.tup_inv;obtain⟨y,hy,hr⟩:=hv.get e;exact aY s (by simp[execOp,ho,hu,Instr.extract,hy]) hr
theorem uB {t:TypeId}{f:Nat}{p:Nat×Nat×Bool}(e:mU C.T t f=some p):
  ∃fs fd,C.P.underlying t=some (.struct fs)/\und C.T t=some (.struct fs)/\fs[f]?=some fd/\p.1=fd.offset/\szT C.T fd.type=some p.2.1/\0<p.2.1/\p.2.2=cn C.T fd.type:=by
 obtain⟨fs,hfs,e⟩:=ah e;obtain⟨fd,hfd,e⟩:=ah e;obtain⟨n,hn,e⟩:=ah e;obtain⟨hc,e⟩:=aH e;cases e;obtain⟨d,hd,hfs⟩:=ah hfs;cases d<;>first|(cases hfs;done)|skip
 case struct fs'=>
 cases hfs;exact⟨fs,fd,Pw hd,hd,by simpa using hfd,rfl,hn,jL hc,rfl⟩
theorem Ci {t:TypeId}{n off:Nat}{cs:List AV}{us:List Value}(hn:szT C.T t=some n)(hv:aR g cs us)(ha:aO cs=true)(e:pN (cn C.T t) n off cs=some v):
  ∃y,(part t ⟨us⟩ off).run C.P w=.ok y w/\bu g v y:=by
 obtain⟨g1,g2,g3,g4,g5,g6,g7,g8⟩:=vz e hv ha;refine⟨_,?_,g2⟩;simp only[part,Sem.run_bind,xy hn,Result.andThen_ok];cases hag:cn C.T t with
 |true=>
  have ee:(⟨us⟩:Array Value).extract off (off+n)=⟨(us.drop off).take n⟩:=by
   apply Array.ext';simp[List.take_drop,Nat.add_comm]
  simp only[if_true,Sem.run_bind,bU hn,Result.andThen_ok,Sem.run_pure,vU,ee]
 |false=>
  have h1:=g5 hag;subst h1;have hl:=hv.length;have hi:off<us.length:=by omega
  have e1:us[off]?=some us[off]:=wO hi;have e2:(us.drop off).take 1=[us[off]]:=by rw[List.drop_eq_getElem_cons hi];rfl
  rw[e2];simp[vU,hi]
theorem NL (s:Sim C g U h w)(ht:eQ g tm tmps){o:Oper}{t:TypeId}{x:Operand}{ax:AX}{f:Nat}{p:Nat×Nat×Bool}(ho:o.op=.field t x f)(hp:mU C.T t f=some p)(hx:cX x=some ax)
  (e:okV (uW (ev ax tm) p.1 p.2.1 p.2.2) h=.val v h'):im C g U h ((execOp (gt tmps) o).run C.P w) v h':=by
 obtain⟨e',rfl⟩:=dJ e;clear e;have e:=e';obtain⟨cs,hcs,e⟩:=ah e;obtain⟨fs,fd,_,hd,hfd,p1,p2,_,p3⟩:=uB hp;have rx:=bN ht hx;rw[ki hcs]at rx;obtain⟨us,ha,hv,hu⟩:=rx.agg_inv;rw[p3]at e;obtain⟨y,hy,hr⟩:=Ci (w:=w) p2 hv ha e;refine aY s ?_ hr;rw[p1]at hy;simp[execOp,ho,hu,Instr.field,bh hd,hfd,asAgg,hy]
theorem NM (s:Sim C g U h w)(ht:eQ g tm tmps){o:Oper}{t:TypeId}{x:Operand}{ax:AX}{f:Nat}{p:Nat×Nat×Bool}(ho:o.op=.fieldAddr t x f)(hp:mU C.T t f=some p)(hx:cX x=some ax)
  (e:eM (ev ax tm) h p.1 p.2.1 p.2.2=.val v h'):im C g U h ((execOp (gt tmps) o).run C.P w) v h':=by
 obtain⟨fs,fd,_,hd,hfd,p1,p2,p4,p3⟩:=uB hp;have rx:=bN ht hx;have hne:¬p.2.1=0:=by omega
 have run:∀b off,gt tmps x=.pointer (some ⟨b,off,none⟩)->(execOp (gt tmps) o).run C.P w=.ok (.value (.pointer (some ⟨b,off+p.1,none⟩))) w:=by
  intro b off hu;simp[execOp,ho,hu,Instr.fieldAt,Instr.sureAddr,bh hd,hfd,fieldPlace,bU p2,hne,iO,p1]
 generalize ev ax tm=a at rx e;cases a<;>first|(cases e;done)|skip
 case ptr k m off=>
  cases e;obtain⟨l,hl,hu⟩:=rx.ptr_inv;refine aY s (run _ _ hu) ?_;rw[Nat.add_assoc];exact .ptr hl
 case vptr a=>
  obtain⟨e',rfl⟩:=dJ e;clear e;have e:=e';obtain⟨cs,hcs,e⟩:=ah e;obtain⟨y,hy,e⟩:=ah e;cases e;obtain⟨b,off,ha,hr,hu⟩:=rx.vptr_inv;rw[ki hcs]at ha hr;have ha:aO cs=true:=ha;have hr:fm g b off cs:=hr;obtain⟨g1,g2,g3,g4,g5,_⟩:=vA hy ha;refine aY s (run _ _ hu) (.vptr g5 ?_);rw[g1];exact hr.sub p.1 p.2.1 (by omega)
end
theorem rP:∀{es:List AV} {sz n:Nat} {v:AV},(∀e∈es,e.cells.length=sz)->es[n]?=some v->((flat es).drop (n*sz)).take sz=v.cells/\n*sz+sz<=(flat es).length
 |[],sz,n,v,_,h=>by simp at h
 |e::es,sz,0,v,hs,h=>by
  simp at h;subst h;have:=hs e (.head _);rw[bO,Nat.zero_mul,List.drop_zero];refine⟨by rw[<-this,List.take_left' rfl],by rw[List.length_append];omega⟩
 |e::es,sz,n+1,v,hs,h=>by
  have he:=hs e (.head _);obtain⟨h1,h2⟩:=rP (n:=n) (fun x hx=>hs x (.tail _ hx)) (by simpa using h);rw[bO];refine⟨?_,by rw[List.length_append,Nat.succ_mul];omega⟩;rw[<-h1,Nat.succ_mul,Nat.add_comm (n*sz) sz,<-List.drop_drop,List.drop_left' he]
theorem dY {sz:Nat}: ∀{es:List AV},(∀e∈es,e.cells.length=sz)->(flat es).length=es.length*sz
 |[],_=>by simp[mc]
 |e::es,hs=>by
  rw[bO,List.length_append,hs e (.head _),dY (fun x hx=>hs x (.tail _ hx)),List.length_cons,Nat.succ_mul,Nat.add_comm]
theorem yV {es:List AV}(h:aO (flat es)=true):∀e∈es,aO e.cells=true:=by
 induction es with
 |nil=>intro e he;simp at he
 |cons x es ih=>
  rw[bO,eY,Bool.and_eq_true]at h;intro e he;cases he with
  |head=>exact h.1
  |tail _ he=>exact ih h.2 e he
section
variable {C:Cx}{g:Gh}{U:Nat->Option (List AV)}{h h':AH}{w:World}{tm:Tm}{tmps:Array Value}{v:AV}
theorem pG {x:AV}{b n:Nat}(e:asIdx x b=some n):(∃k,x=.int k (n:Int))/\n<b:=by
 obtain⟨m,hm,e⟩:=ah e;obtain⟨hc,e⟩:=aH e;cases e;exact⟨oz hm,jL hc⟩
theorem mJ {x:AV}{b n:Nat}(e:lX x b=some n):(∃k,x=.int k (n:Int))/\n<=b:=by
 obtain⟨m,hm,e⟩:=ah e;obtain⟨hc,e⟩:=aH e;cases e;exact⟨oz hm,eG hc⟩
theorem kT {t el:TypeId}{sz:Nat}(hd:und C.T t=some (.slice el))(hn:szT C.T el=some sz){b off len cap i:Nat}{k:IntKind}(hi:i<len):
  (Instr.indexAt t (.slice (some ⟨b,off,none⟩) len cap) (.int k (i:Int))).run C.P w=.ok (.pointer (some ⟨b,off+i*sz,none⟩)) w:=by
 simp[Instr.indexAt,asIntOf,bh hd,hi,bU hn,iO]
theorem Nw {es:List AV}{sz:Nat}{i:AV}(e:Ms es sz i=some v):∃(k:IntKind) (n:Nat) (x:AV),i=.int k (n:Int)/\es[n]?=some x/\x.cells.length=sz/\v=.vptr x:=by
 obtain⟨n,hn,e⟩:=ah e;obtain⟨x,hx,e⟩:=ah e;obtain⟨hc,e⟩:=aH e;cases e;obtain⟨k,hk⟩:=oz hn;have hc:=beq_eq hc;rw[bH]at hc;rw[iQ]at hx;exact⟨k,n,x,hk,hx,hc,rfl⟩
theorem getElem?_lt {α:Type}{l:List α}{n:Nat}{x:α}(h:l[n]?=some x):n<l.length:=by
 rcases Nat.lt_or_ge n l.length with q|q
 ·exact q
 ·rw[List.getElem?_eq_none q]at h;cases h
theorem NK (s:Sim C g U h w)(ht:eQ g tm tmps){o:Oper}{t el:TypeId}{x i:Operand}{ax ai:AX}{sz:Nat}(ho:o.op=.indexAddr t x i)(hd:und C.T t=some (.slice el))(hn:szT C.T el=some sz)
  (hx:cX x=some ax) (hi:cX i=some ai) (e:cz (ev ax tm) h sz (ev ai tm)=.val v h'):im C g U h ((execOp (gt tmps) o).run C.P w) v h':=by
 have rx:=bN ht hx;have ri:=bN ht hi;have fin:∀(es:List AV) (a:Option Addr) (cap:Nat),gt tmps x=.slice a es.length cap->
   (es=[]∨∃sz b off,a=some ⟨b,off,none⟩/\(∀e∈es,e.cells.length=sz)/\aO (flat es)=true/\fm g b off (flat es))->
   okV (Ms es sz (ev ai tm)) h=.val v h'->im C g U h ((execOp (gt tmps) o).run C.P w) v h':=by
  intro es a cap hu hcase e;obtain⟨e',rfl⟩:=dJ e;clear e;obtain⟨k,n,y,hk,hy,hsz,rfl⟩:=Nw e';rw[hk]at ri;rcases hcase with rfl|⟨sz',b,off,rfl,hs,ha,hr⟩
  ·simp at hy
  ·have:sz'=sz:=by rw[<-hsz];exact(hs y (wS hy)).symm
   subst this;obtain⟨f1,f2⟩:=rP hs hy;refine aY (u:=.pointer (some ⟨b,off+n*sz',none⟩)) s ?_ (.vptr (yV ha y (wS hy)) ?_)
   ·simp only[execOp,ho,hu,ri.int_inv,Sem.run_bind,kT hd hn (getElem?_lt hy),Result.andThen_ok,Sem.run_pure]
   ·rw[<-f1];exact hr.sub (n*sz') sz' (by omega)
 generalize ev ax tm=a at rx e;cases a<;>first|(cases e;done)|skip
 case ls es=>
  obtain⟨a,cap,hu,_,hcase⟩:=rx.lst_inv;exact fin es a cap hu hcase e
 case clip es=>
  obtain⟨a,hu,hcase⟩:=rx.clip_inv;exact fin es a _ hu hcase e
 case row k n sz' off m=>
  obtain⟨e',rfl⟩:=dJ e;clear e;obtain⟨hc,e'⟩:=aH e';obtain⟨j,hj,e'⟩:=ah e';cases e';have hc:=beq_eq hc;obtain⟨⟨kk,hk⟩,hlt⟩:=pG hj;rw[hk]at ri;obtain⟨l,a,hl,hs,hle,hu,ha⟩:=rx.row_inv;rcases ha with rfl|⟨rfl,_⟩
  ·refine aY s (u:=.pointer (some ⟨l.block,l.base+(off+j)*sz,none⟩)) ?_ (.ptr hl);simp only[execOp,ho,hu,ri.int_inv,Sem.run_bind,kT hd hn hlt,Result.andThen_ok,Sem.run_pure];rw[hc,Nat.add_mul,Nat.add_assoc]
  ·omega
theorem Km (s:Sim C g U h w)(ht:eQ g tm tmps){o:Oper}{t el:TypeId}{x i:Operand}{ax ai:AX}{len sz:Nat}(ho:o.op=.indexAddr t x i)(hd:und C.T t=some (.array len el))(hn:szT C.T el=some sz)
  (hx:cX x=some ax) (hi:cX i=some ai) (e:Option.casesOn (asIdx (ev ai tm) len) .bad (fun n=>gi (ev ax tm) h n sz (cn C.T el))=OpR.val v h') :
  im C g U h ((execOp (gt tmps) o).run C.P w) v h':=by
 have rx:=bN ht hx;have ri:=bN ht hi;cases hj:asIdx (ev ai tm) len with
 |none=>rw[hj]at e;cases e
 |some n=>
  rw[hj]at e;have e:gi (ev ax tm) h n sz (cn C.T el)=.val v h':=e;obtain⟨⟨kk,hk⟩,hlt⟩:=pG hj;rw[hk]at ri;have run:∀b off,gt tmps x=.pointer (some ⟨b,off,none⟩)->(execOp (gt tmps) o).run C.P w=.ok (.value (.pointer (some ⟨b,off+n*sz,none⟩))) w:=by
   intro b off hu;simp[execOp,ho,hu,ri.int_inv,Instr.indexAt,asIntOf,Instr.sureAddr,bh hd,hlt,bU hn,iO]
  generalize ev ax tm=a at rx e;cases a<;>first|(cases e;done)|skip
  case ptr k m off=>
   cases e;obtain⟨l,hl,hu⟩:=rx.ptr_inv;refine aY s (run _ _ hu) ?_;rw[Nat.add_assoc];exact .ptr hl
  case vptr a=>
   obtain⟨e',rfl⟩:=dJ e;clear e;obtain⟨cs,hcs,e'⟩:=ah e';obtain⟨y,hy,e'⟩:=ah e';cases e';obtain⟨b,off,ha,hr,hu⟩:=rx.vptr_inv;rw[ki hcs]at ha hr;have ha:aO cs=true:=ha;have hr:fm g b off cs:=hr;obtain⟨g1,g2,g3,g4,g5,_⟩:=vA hy ha;refine aY s (run _ _ hu) (.vptr g5 ?_);rw[g1];exact hr.sub (n*sz) sz (by have:Nat.mul n sz=n*sz:=rfl;omega)
theorem Kf (s:Sim C g U h w)(ht:eQ g tm tmps){o:Oper}{t:TypeId}{x i:Operand}{ax ai:AX}(ho:o.op=.index t x i)(hd:und C.T t=some .string)
  (hx:cX x=some ax) (hi:cX i=some ai) (e:okV (mg (ev ax tm) (ev ai tm)) h=.val v h'):im C g U h ((execOp (gt tmps) o).run C.P w) v h':=by
 obtain⟨e',rfl⟩:=dJ e;clear e;obtain⟨sv,hs,e'⟩:=ah e';obtain⟨n,hn,e'⟩:=ah e';obtain⟨b,hb,e'⟩:=ah e';cases e';rw[iQ]at hb;have rx:=bN ht hx;have ri:=bN ht hi;rw[kj hs]at rx;obtain⟨k,hk⟩:=oz hn;rw[hk]at ri;have hb':sv[n]?=some b:=by
  have hlt:=getElem?_lt hb;have hsz:n<sv.size:=by
   show n<sv.data.size;rw[<-Array.length_toList];exact hlt
  rw[getElem?_pos sv n hsz];rw[wO hlt]at hb;cases hb;rfl
 refine aY s ?_ (.int _ _);simp[execOp,ho,rx.str_inv,ri.int_inv,Instr.index,asIntOf,bh hd,hb']
theorem Ks (s:Sim C g U h w)(ht:eQ g tm tmps){o:Oper}{t el:TypeId}{x i:Operand}{ax ai:AX}{len sz:Nat}(ho:o.op=.index t x i)(hd:und C.T t=some (.array len el))(hn:szT C.T el=some sz)
  (hx:cX x=some ax) (hi:cX i=some ai) (e:okV (rh len sz (cn C.T el) (ev ax tm) (ev ai tm)) h=.val v h'):im C g U h ((execOp (gt tmps) o).run C.P w) v h':=by
 obtain⟨e',rfl⟩:=dJ e;clear e;obtain⟨cs,hcs,e'⟩:=ah e';obtain⟨n,hj,e'⟩:=ah e';have rx:=bN ht hx;have ri:=bN ht hi;obtain⟨⟨kk,hk⟩,hlt⟩:=pG hj;rw[hk]at ri;rw[ki hcs]at rx;obtain⟨us,ha,hv,hu⟩:=rx.agg_inv;obtain⟨y,hy,hr⟩:=Ci (w:=w) hn hv ha e';refine aY s ?_ hr;have hy:(part el ⟨us⟩ (n*sz)).run C.P w=.ok y w:=hy;simp[execOp,ho,hu,ri.int_inv,Instr.index,asIntOf,bh hd,hlt,bU hn,hy]
theorem kP (a b:Int):BU a b=(a==b):=by
 cases a with
 |ofNat m=>cases b with
  |ofNat n=>
   show Nat.beq m n=_;by_cases h:m=n
   ·subst h;simp
   ·rw[Dr h];symm;simp;omega
  |negSucc n=>rfl
 |negSucc m=>cases b with
  |ofNat n=>rfl
  |negSucc n=>
   show Nat.beq m n=_;by_cases h:m=n
   ·subst h;simp
   ·rw[Dr h];symm;simp;omega
theorem qK (a b:Int):leI a b=decide (a<=b):=by
 have key:∀m n:Nat,Nat.ble m n=decide (m<=n):=fun m n=>by
  cases h:Nat.ble m n with
  |true=>simp[eG h]
  |false=>have:=lV h;simp;omega
 cases a with
 |ofNat m=>cases b with
  |ofNat n=>
   show Nat.ble m n=_;rw[key];congr 1;simp
  |negSucc n=>
   show false=_;symm;simp only[decide_eq_false_iff_not];have:Int.ofNat m=(m:Int):=rfl;omega
 |negSucc m=>cases b with
  |ofNat n=>
   show true=_;symm;simp only[decide_eq_true_eq];have:Int.ofNat n=(n:Int):=rfl;omega
  |negSucc n=>
   show Nat.ble n m=_;rw[key];congr 1;simp only[eq_iff_iff];omega
theorem Ji {a b:IntKind}(h:LZ a b=true):a=b:=by cases a<;>cases b<;>first|rfl|(cases h)
theorem sP (a:IntKind):LZ a a=true:=by cases a<;>rfl
theorem lj (n:Int)(h1 : -(2 ^ 63)<=n)(h2:n<2 ^ 63):IntKind.i64.wrap n=n:=by
 have e1:(2 ^ IntKind.i64.bits:Int)=18446744073709551616:=rfl;have e2:(2 ^ (IntKind.i64.bits-1):Int)=9223372036854775808:=rfl;have e3:IntKind.i64.signed=true:=rfl;unfold IntKind.wrap;simp only[e1,e2,e3,Bool.true_and,decide_eq_true_eq,ge_iff_le];split<;>omega
theorem gG (k:IntKind)(n:Int):nB k n=.int k (k.wrap n):=by
 unfold nB;cases hk:Nat.beq (Mt k) 3 with
 |false=>rfl
 |true=>
  have:k=.i64:=by cases k<;>first|rfl|(cases hk)
  subst this;show Pv n=_;cases n with
  |ofNat m=>
   show cond (Nat.blt m 9223372036854775808) _ _=_;cases hm:Nat.blt m 9223372036854775808 with
   |false=>rfl
   |true=>
    have:=jL hm;show AV.int .i64 (Int.ofNat m)=_;rw[lj (Int.ofNat m) (by simp only[Int.ofNat_eq_natCast];omega) (by simp only[Int.ofNat_eq_natCast];omega)]
  |negSucc m=>
   show cond (Nat.blt m 9223372036854775808) _ _=_;cases hm:Nat.blt m 9223372036854775808 with
   |false=>rfl
   |true=>
    have:=jL hm;show AV.int .i64 (Int.negSucc m)=_;rw[lj (Int.negSucc m) (by omega) (by omega)]
end
