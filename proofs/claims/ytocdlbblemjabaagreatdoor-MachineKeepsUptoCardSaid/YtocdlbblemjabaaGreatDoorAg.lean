/- AbsGo: one operation of the evaluator's is one of the model's: the rest of the plain ones (no condition). -/
import Derived.Test.YtocdlbblemjabaaGreatDoorAf
namespace Go.AG
section
variable {C:Cx}{g:Gh}{U:Nat->Option (List AV)}{h h':AH}{w:World}{tm:Tm}{tmps:Array Value}{v:AV}
theorem YW {x:Operand}(e:isC x=true):∃ v,x=.const v:=by cases x<;>first|(cases e;done)|exact⟨_,rfl⟩
theorem fF {op:BinOp}{t:TypeId}{x y:Operand}{a b:Value}(h1:(a=.nilIface/\b=.nilIface)->(isC x||isC y)=true)
  (h2:(∃ p q,a=.agg p/\b=.agg q)->C.P.eqGuardType C.P.depth t=false):(eqGuard op t x y a b).run C.P w=.ok () w:=by
 unfold eqGuard;cases op<;>first
  |rfl
  |(
    simp only[Bool.not_true,Bool.false_eq_true,if_false];split
    ·have:=h1 ⟨rfl,rfl⟩;cases hx:isC x with
     |true=>obtain⟨v,rfl⟩:=YW hx;simp
     |false=>
      have hy:isC y=true:=by simpa [hx] using this
      obtain⟨v,rfl⟩:=YW hy;simp
    ·have:=h2 ⟨_,_,rfl,rfl⟩;simp[this]
    ·rfl)
theorem aim (s:Sim C g U h w)(ht:ep g tm tmps){o:Oper}{op:BinOp}{t t':TypeId}{x y:Operand}{ax ay:AX}{k:EqK}(ho:o.op=.binOp op t x y t')
  (hk:eqK C.P C.T t (isC x||isC y)=some k) (hx:cX x=some ax) (hy:cX y=some ay) (e:okV (qJ (ev ax tm) op k (ev ay tm)) h=.val v h') :
  gG C g U h ((execOp (alc tmps) o).run C.P w) v h':=by
 obtain⟨e',rfl⟩:=dx e;clear e;have rx:=bQ ht hx;have ry:=bQ ht hy;have other:∀ a,bA g a (alc tmps x)->(∀ k n,a≠.int k n)->(∀ s,a≠.str s)->Zd op k a (ev ay tm)=some v->gG C g U h' ((execOp (alc tmps) o).run C.P w) v h':=by
  intro a ra hni hns e;cases op<;>first|(cases e;done)|skip
  case eql=>
   obtain⟨r,hr,e⟩:=aA (o:=adM k a (ev ay tm)) e;cases e;obtain⟨q1,q2,q3⟩:=yv (w:=w) hk ra ry hr;refine bc s ?_ (.bool r);have hg:=fF (C:=C) (w:=w) (op:=.eql) (t:=t) (x:=x) (y:=y) q2 q3;have hb:(binOp .eql t (alc tmps x) (alc tmps y)).run C.P w=.ok (.bool r) w:=by
    generalize alc tmps x=X at *;generalize alc tmps y=Y at *;generalize ev ay tm=b at *;cases ra<;>first
     |(exact absurd rfl (hni _ _))
     |(exact absurd rfl (hns _))
     |(cases ry<;>first|(simp[binOp,q1];done)|(cases k<;>first|(cases hr;done)|(rename_i c;cases c<;>cases hr)))
   simp[execOp,ho,hg,hb]
  case neq=>
   obtain⟨r,hr,e⟩:=aA (o:=adM k a (ev ay tm)) e;cases e;obtain⟨q1,q2,q3⟩:=yv (w:=w) hk ra ry hr;refine bc s ?_ (.bool (!r));have hg:=fF (C:=C) (w:=w) (op:=.neq) (t:=t) (x:=x) (y:=y) q2 q3;have hb:(binOp .neq t (alc tmps x) (alc tmps y)).run C.P w=.ok (.bool (!r)) w:=by
    generalize alc tmps x=X at *;generalize alc tmps y=Y at *;generalize ev ay tm=b at *;cases ra<;>first
     |(exact absurd rfl (hni _ _))
     |(exact absurd rfl (hns _))
     |(cases ry<;>first|(simp[binOp,q1];done)|(cases k<;>first|(cases hr;done)|(rename_i c;cases c<;>cases hr)))
   simp[execOp,ho,hg,hb]
 generalize ev ax tm=a at rx e';cases a
 case int k1 n=>
  generalize ev ay tm=b at ry e';cases b<;>first|(cases e';done)|skip
  case int k2 m=>
   obtain⟨hc,e'⟩:=aN (c:=or (pP op) (TZ k1 k2)) e';have hc:pP op=true∨k2=k1:=by
    cases hs:pP op with
    |true=>exact .inl rfl
    |false=>rw[hs]at hc;exact .inr (Pj (by simpa using hc)).symm
   obtain⟨u,hu,hv⟩:=abT (C:=C) (g:=g) (w:=w) (t:=t) e' hc;refine bc s ?_ hv;have hg:=fF (C:=C) (w:=w) (op:=op) (t:=t) (x:=x) (y:=y) (a:=.int k1 n) (b:=.int k2 m) (fun q=>by cases q.1) (fun⟨_,_,q,_⟩=>by cases q);simp[execOp,ho,rx.int_inv,ry.int_inv,hg,hu]
 case str n=>
  generalize ev ay tm=b at ry e';cases b<;>first|(cases e';done)|skip
  case str m=>
   obtain⟨u,hu,hv⟩:=abS (C:=C) (g:=g) (w:=w) (t:=t) e';refine bc s ?_ hv;have hg:=fF (C:=C) (w:=w) (op:=op) (t:=t) (x:=x) (y:=y) (a:=.string n) (b:=.string m) (fun q=>by cases q.1) (fun⟨_,_,q,_⟩=>by cases q);simp[execOp,ho,rx.str_inv,ry.str_inv,hg,hu]
 all_goals exact other _ rx (fun _ _ q=>by cases q) (fun _ q=>by cases q) e'
theorem op_un (s:Sim C g U h w)(ht:ep g tm tmps){o:Oper}{op:UnOp}{t:TypeId}{x:Operand}{ax:AX}(ho:o.op=.unOp op t x)(hx:cX x=some ax)
  (e:okV (ZR op (ev ax tm)) h=.val v h'):gG C g U h ((execOp (alc tmps) o).run C.P w) v h':=by
 obtain⟨e',rfl⟩:=dx e;clear e;have rx:=bQ ht hx;cases op<;>first|(cases e';done)|skip
 case neg=>
  obtain⟨p,hp,e'⟩:=aA (o:=zX (ev ax tm)) e';cases e';rw[gY hp]at rx;rw[jt];refine bc s ?_ (.int _ _);simp[execOp,ho,rx.int_inv,Op.unary,Op.intArith];rw[show Int.sub 0 p.2=0-p.2 from rfl,Int.zero_sub]
 case not=>
  obtain⟨p,hp,e'⟩:=aA (o:=CW (ev ax tm)) e';cases e';rw[qy hp]at rx;refine bc s ?_ (.bool _);simp[execOp,ho,rx.bool_inv,Op.unary]
theorem acj (s:Sim C g U h w)(ht:ep g tm tmps){o:Oper}{src dst:TypeId}{d d':TypeDesc}{x:Operand}{ax:AX}{aop:AOp}(ho:o.op=.convert src dst x)(hd:und C.T src=some d)
  (hd':und C.T dst=some d') (hx:cX x=some ax) (hc:afx d d' ax=some aop) (e:evOp aop tm h=.val v h'):gG C g U h ((execOp (alc tmps) o).run C.P w) v h':=by
 have rx:=bQ ht hx;cases d<;>first|(cases hc;done)|skip
 case int k0=>
  obtain⟨k,hk,hc⟩:=aA (o:=intK d') hc;cases hc;cases d'<;>first|(cases hk;done)|skip
  cases hk;obtain⟨e',rfl⟩:=dx (r:=BH k (ev ax tm)) e;clear e;obtain⟨p,hp,e'⟩:=aA e';cases e';rw[gY hp]at rx;rw[jt];refine bc s ?_ (.int _ _);simp[execOp,ho,rx.int_inv,convert,bj hd,bj hd',Conv.intToInt]
 case string=>
  cases d'<;>first|(cases hc;done)|skip
  cases hc;obtain⟨e',rfl⟩:=dx (r:=rR (ev ax tm)) e;clear e;obtain⟨p,hp,e'⟩:=aA e';cases e';rw[kh hp]at rx;refine bc s ?_ (.str _);simp[execOp,ho,rx.str_inv,convert,bj hd,bj hd']
theorem FU (s:Sim C g U h w)(ht:ep g tm tmps){o:Oper}{t:TypeId}{d:TypeDesc}{x:Operand}{ax:AX}(ho:o.op=.makeInterface t x)(hd:und C.T t=some d)
  (hn:vR d=false) (hx:cX x=some ax):gG C g U h ((execOp (alc tmps) o).run C.P w) (.ifc t (ev ax tm)) h:=by
 refine bc s ?_ (.ifc (bQ ht hx));simp only[execOp,ho,Instr.makeInterface,Sem.run_bind,bj hd,Result.andThen_ok];cases d<;>first|(cases hn;done)|rfl
theorem acd (s:Sim C g U h w)(ht:ep g tm tmps){o:Oper}{f:FuncId}{a b:Array Operand}{la lb:List AX}(ho:o.op=.makeFunc (.func f) a b)(ha:cXs a=some la)
  (hb:cXs b=some lb):gG C g U h ((execOp (alc tmps) o).run C.P w) (.fn f (evs la tm) (evs lb tm)) h:=by
 refine bc s ?_ (.fn (nV ht ha) (nV ht hb));have e:∀ c:Array Operand,c.map (alc tmps)=⟨c.toList.map (alc tmps)⟩:=fun c=>by apply Array.ext';simp
 simp only[execOp,ho,Instr.makeFunc,Sem.run_bind,Sem.run_pure,Result.andThen_ok,e]
theorem UY (s:Sim C g U h w){o:Oper}{t:TypeId}(ho:o.op=.makeMap t none):gG C g U h ((execOp (alc tmps) o).run C.P w) (.map h.z) (h.new (.map [])):=by
 obtain⟨ex,s'⟩:=s.alloc (.map []) (.map #[] 0) ⟨w.heap.size,0,0,0⟩ rfl rfl ⟨#[],0,heap_alloc_new _ _,.nil,by simp,by simp⟩;refine⟨_,_,_,.inl ?_,ex,s',.map (l:=⟨w.heap.size,0,0,0⟩) (g.at_same _ _ _),Low.new _ _⟩;simp[execOp,ho,Instr.makeMap]
theorem RM (s:Sim C g U h w)(ht:ep g tm tmps){o:Oper}{t t':TypeId}{d:TypeDesc}{x:Operand}{ax:AX}{z:AV}{ok:Bool}(ho:o.op=.typeAssert x t' t ok)(hd:und C.T t=some d)
  (hn:vR d=false) (hx:cX x=some ax) (hz:jN C.T t=some z) (e:okV (lh (ev ax tm) t z ok) h=.val v h') :
  gG C g U h ((execOp (alc tmps) o).run C.P w) v h':=by
 obtain⟨e',rfl⟩:=dx e;clear e;have rx:=bQ ht hx;obtain⟨i,zv,hi,hzv,hr,_⟩:=iG g hz;have zrun:=cZ (w:=w) hi hzv;have run:∀ y,(Instr.typeAssert (alc tmps x) t' t ok).run C.P w=.ok y w->(execOp (alc tmps) o).run C.P w=.ok (.value y) w:=by
  intro y hy;simp[execOp,ho,hy]
 generalize ev ax tm=a at rx e';cases a<;>first|(cases e';done)|skip
 case ifc t0 v0=>
  obtain⟨u,hu,hx'⟩:=rx.ifc_inv;have e2:cond (Nat.beq t0 t) (some (cond ok (.tup [v0,.bool true]) v0)) (cond ok (some (.tup [z,.bool false])) none)=some v:=e';clear e';cases hb:Nat.beq t0 t with
  |true=>
   rw[hb]at e2;have hb:=beq_eq hb;subst hb;cases e2;cases ok with
   |true=>
    refine bc s (run (.tuple #[u,.bool true]) ?_) (.tup (.cons hu (.cons (.bool _) .nil)));rw[hx'];unfold Instr.typeAssert;simp only[Sem.run_bind,bj hd,Result.andThen_ok];cases d<;>first|(cases hn;done)|simp
   |false=>
    refine bc s (run u ?_) hu;rw[hx'];unfold Instr.typeAssert;simp only[Sem.run_bind,bj hd,Result.andThen_ok];cases d<;>first|(cases hn;done)|simp
  |false=>
   rw[hb]at e2;have hne:¬ t0=t:=fun q=>by rw[q,Nat.beq_refl]at hb;cases hb
   obtain⟨hok,e3⟩:=aN (c:=ok) e2;subst hok;cases e3;refine bc s (run (.tuple #[zv,.bool false]) ?_) (.tup (.cons hr (.cons (.bool _) .nil)));rw[hx'];unfold Instr.typeAssert;simp only[Sem.run_bind,bj hd,Result.andThen_ok];cases d<;>first|(cases hn;done)|simp[hne,zrun]
 case nili=>
  obtain⟨hok,e'⟩:=aN (c:=ok) e';subst hok;cases e';refine bc s (run (.tuple #[zv,.bool false]) ?_) (.tup (.cons hr (.cons (.bool _) .nil)));rw[rx.nili_inv];unfold Instr.typeAssert;simp only[Sem.run_bind,bj hd,Result.andThen_ok];cases d<;>first|(cases hn;done)|simp[zrun]
end
theorem fT (a b:List AV):flat (a++b)=flat a++flat b:=by
 induction a with
 |nil=>rfl
 |cons x a ih=>rw[List.cons_append,cw,ih,cw,List.append_assoc]
theorem wJ {es:List AV}{sz l k:Nat}(hs:∀ e∈es,e.cells.length=sz)(hl:l<=es.length):flat ((es.drop l).take k)=((flat es).drop (l*sz)).take (k*sz):=by
 have e1:es=es.take l++es.drop l:=(List.take_append_drop l es).symm;have h1:(flat (es.take l)).length=l*sz:=by
  rw[dJ (fun e he=>hs e (List.mem_of_mem_take he)),List.length_take,Nat.min_eq_left hl]
 have e2:(flat es).drop (l*sz)=flat (es.drop l):=by
  conv=>lhs;rw[e1,fT]
  rw[List.drop_left' h1]
 rw[e2];have hs':∀ e∈es.drop l,e.cells.length=sz:=fun e he=>hs e (List.mem_of_mem_drop he)
 generalize es.drop l=ys at hs';rcases Nat.lt_or_ge k ys.length with hk|hk
 ·have e3:ys=ys.take k++ys.drop k:=(List.take_append_drop k ys).symm;have h2:(flat (ys.take k)).length=k*sz:=by
   rw[dJ (fun e he=>hs' e (List.mem_of_mem_take he)),List.length_take,Nat.min_eq_left (Nat.le_of_lt hk)]
  conv=>rhs;rw[e3,fT]
  rw[List.take_left' h2]
 ·rw[List.take_of_length_le hk,List.take_of_length_le];rw[dJ hs'];exact Nat.mul_le_mul_right sz hk
section
variable {C:Cx}{g:Gh}{U:Nat->Option (List AV)}{h h':AH}{w:World}{tm:Tm}{tmps:Array Value}{v:AV}
theorem FP (s:Sim C g U h w)(ht:ep g tm tmps){o:Oper}{t el:TypeId}{l c:Operand}{al ac:AX}{sz:Nat}{z:AV}{i:TypeInfo}(ho:o.op=.makeSlice t l c)(hel:pF C.T t=some el)
  (hsz:szT C.T el=some sz) (hz:jN C.T el=some z) (hi:C.T.get el=some i) (hl:cX l=some al) (hc:cX c=some ac) (hp:0<sz)
  (e:qG (fJ h (cm C.T el) sz i.bytes z.cells (ev al tm) (ev ac tm))=.val v h'):gG C g U h ((execOp (alc tmps) o).run C.P w) v h':=by
 have e:=oO e;obtain⟨n,hn,e⟩:=aA e;obtain⟨m,hm,e⟩:=aA e;obtain⟨hcond,e⟩:=aN e;cases e;obtain⟨c1,c2⟩:=cR hcond;obtain⟨c2,c3⟩:=cR c2;have c1:=beq_eq c1;subst c1;have c2:n*i.bytes<=140737488355328:=eE c2;have rl:=bQ ht hl;have rc:=bQ ht hc;obtain⟨⟨k1,h1⟩,hle⟩:=nw hn;obtain⟨⟨k2,h2⟩,_⟩:=nw hm;rw[h1]at rl;rw[h2]at rc;obtain⟨d,hd,hel⟩:=aA hel;cases d<;>first|(cases hel;done)|skip
 case slice=>
 cases hel;obtain⟨i',zv,hi',hzv,hr,hlen,hcl,_⟩:=iG g hz;rw[hi]at hi';cases hi';obtain⟨i2,d2,hi2,hsz2,_⟩:=mB hsz;rw[hi]at hi2;cases hi2;have hzr:=hr.cells (lZ hcl);have hzlen:zv.cells.size=sz:=by have:=hzr.length;simp at this;omega
 have zr:=sV hzr n;have hw:IntKind.i64.wrap (n:Int)=(n:Int):=lC _ o_ o_;have ht1:¬ (281474976710656<(i.bytes:Int)*(n:Int)):=by
  have:(i.bytes:Int)*(n:Int)=((n*i.bytes:Nat):Int):=by rw[Int.natCast_mul,Int.mul_comm]
  rw[this];omega
 obtain⟨g',w',hw',ex,s',hv⟩:=oY (agg:=cm C.T el) s el hp n (e_ _) (us:=(Array.range (n*zv.cells.size)).map fun i=>zv.cells[i % zv.cells.size]!) (cs:=rY n z.cells)
  (by simp[hzlen]) (by rw[jm];rw[hlen,hsz2];exact e_ _) (by rw[List.take_of_length_le (by rw[jm];simp[hlen,hzlen,hsz2])];exact zr) (iX _ hcl n)
 refine⟨g',w',_,.inl ?_,ex,s',hv,Low.new _ _⟩;rw[hzlen]at hw';by_cases h0:n*sz=0
 ·have hn0:n=0:=by
   rcases Nat.mul_eq_zero.1 h0 with x|x
   ·exact x
   ·omega
  subst hn0;have r1:∀ f:Nat->Value,(Array.range 0).map f=#[]:=fun f=>ij f rfl
  rw[Nat.zero_mul,r1]at hw';have hw0:IntKind.i64.wrap 0=0:=rfl;simp[execOp,ho,rl.int_inv,rc.int_inv,Instr.makeSlice,bj hd,asInt,asIntOf,im hi,hw0,bY hsz,r1,hw']
 ·simp[execOp,ho,rl.int_inv,rc.int_inv,Instr.makeSlice,bj hd,asInt,asIntOf,im hi,hw,bY hsz,h0,cZ hi hzv,hzlen,hw'];exact fun q=>by
   exfalso;rcases q with(q|q)|q
   ·omega
   ·exact ht1 q
   ·omega
theorem pM (ht:ep g tm tmps){x:Option Operand}{ax:Option AX}{d b n:Nat}(hx:oA x=some ax)(e:xt ax tm d b=some n):
  (x=none/\n=d)∨(∃ y k,x=some y/\alc tmps y=.int k (n:Int)/\n<=b):=by
 cases x with
 |none=>cases hx;cases e;exact .inl ⟨rfl,rfl⟩
 |some y=>
  obtain⟨a,ha,hx⟩:=aA (o:=cX y) hx;cases hx;have e:lB (ev a tm) b=some n:=e;obtain⟨⟨k,hk⟩,hle⟩:=nw e;have r:=bQ ht ha;rw[hk]at r;exact .inr ⟨y,k,rfl,r.int_inv,hle⟩
theorem nY {k:IntKind}{n b:Nat}{c:BoundsCode}(hn:n<=b):(Instr.sliceBound (.int k (n:Int)) b c).run C.P w=.ok n w:=by
 simp[Instr.sliceBound,asIntOf,hn]
theorem jq {b:Bool}{len cap l hb:Nat}{lo hi:Option Operand}(h1:(hi=none/\hb=len)∨(∃ y k,hi=some y/\alc tmps y=.int k (hb:Int)/\hb<=cap))
  (h2:(lo=none/\l=0)∨(∃ y k,lo=some y/\alc tmps y=.int k (l:Int)/\l<=hb)) :
  (Instr.sliceBounds b len cap (lo.map (alc tmps)) (hi.map (alc tmps)) none).run C.P w=.ok (l,hb,cap) w:=by
 unfold Instr.sliceBounds;rcases h1 with⟨rfl,rfl⟩|⟨y,k,rfl,hy,hle⟩<;>rcases h2 with⟨rfl,rfl⟩|⟨z,k',rfl,hz,hle'⟩<;>
  simp_all [nY]
theorem nE {len cap l hb:Nat}{lo:Option Operand}{hi mx:Operand}{k k2:IntKind}(h1:alc tmps hi=.int k (hb:Int))(h3:alc tmps mx=.int k2 (hb:Int))(hc:hb<=cap)
  (h2:(lo=none/\l=0)∨(∃ y k,lo=some y/\alc tmps y=.int k (l:Int)/\l<=hb)) :
  (Instr.sliceBounds true len cap (lo.map (alc tmps)) (some (alc tmps hi)) (some (alc tmps mx))).run C.P w=.ok (l,hb,hb) w:=by
 unfold Instr.sliceBounds;rcases h2 with⟨rfl,rfl⟩|⟨z,k',rfl,hz,hle'⟩<;>simp_all [nY]
end
section
variable {C:Cx}{g:Gh}{U:Nat->Option (List AV)}{h h':AH}{w:World}{tm:Tm}{tmps:Array Value}{v:AV}
def Dl (a:Option Addr)(sz l hb m:Nat):Value:=.slice (if m=l then a else a.map (·.add (l*sz))) (hb-l) (m-l)
theorem yr {t el:TypeId}{sz:Nat}{a:Option Addr}{len cap l hb m:Nat}{lo hi mx:Option Value}(hd:und C.T t=some (.slice el))(hn:szT C.T el=some sz)
  (hb':(Instr.sliceBounds true len cap lo hi mx).run C.P w=.ok (l,hb,m) w) :
  (Instr.sliceAt t (.slice a len cap) lo hi mx).run C.P w=.ok (Dl a sz l hb m) w:=by
 simp[Instr.sliceAt,bj hd,Instr.slice,hb',bY hn,Dl]
theorem cut_list {es:List AV}{sz:Nat}{b off l hb m:Nat}(hs:∀ e∈es,e.cells.length=sz)(ha:aR (flat es)=true)(hr:eu g b off (flat es))(hl:l<=hb)(hh:hb<=es.length)(hm:hb<=m):
  (tke (Nat.sub hb l) (drp l es)=[]/\Dl (some ⟨b,off,none⟩) sz l hb m=.slice (if m=l then some ⟨b,off,none⟩ else (some ⟨b,off,none⟩:Option Addr).map (·.add (l*sz))) 0 (m-l))∨
  (∃ b' off',Dl (some ⟨b,off,none⟩) sz l hb m=.slice (some ⟨b',off',none⟩) (hb-l) (m-l)/\(∀ e∈tke (Nat.sub hb l) (drp l es),e.cells.length=sz)/\
   aR (flat (tke (Nat.sub hb l) (drp l es)))=true/\eu g b' off' (flat (tke (Nat.sub hb l) (drp l es)))/\(tke (Nat.sub hb l) (drp l es)).length=hb-l):=by
 rw[iB,fa];have hsub:Nat.sub hb l=hb-l:=rfl;rw[hsub];by_cases hz:hb=l
 ·left;subst hz;refine⟨by simp,by unfold Dl;rw[Nat.sub_self]⟩
 ·right;have hml:¬ m=l:=o_;refine⟨b,off+l*sz,?_,fun e he=>hs e (List.mem_of_mem_drop (List.mem_of_mem_take he)),?_,?_,by simp;omega⟩
  ·unfold Dl;rw[N_ hml];simp[iM]
  ·rw[wJ hs o_];exact eR (da ha _) _
  ·rw[wJ hs o_];refine hr.sub (l*sz) ((hb-l)*sz) ?_;rw[dJ hs];exact Nat.mul_le_mul_right sz o_
theorem oH {sz:Nat}{es:List AV}(e:ew sz es=true){sz':Nat}(hs:∀ e∈es,e.cells.length=sz')(hne:es≠[]):sz'=sz:=by
 cases es with
 |nil=>exact absurd rfl hne
 |cons x es=>rw[<- hs x (.head _)];exact(QY sz _).1 e x (.head _)
theorem zH (s:Sim C g U h w)(ht:ep g tm tmps){o:Oper}{t el:TypeId}{x:Operand}{lo hi:Option Operand}{ax:AX}{alo ahi:Option AX}{sz n hb l:Nat}(ho:o.op=.slice t x lo hi none)
  (hd:und C.T t=some (.slice el)) (hsz:szT C.T el=some sz) (hx:cX x=some ax) (hlo:oA lo=some alo) (hhi:oA hi=some ahi)
  (e1:BV (ev ax tm)=some n) (e2:xt ahi tm n n=some hb) (e3:xt alo tm 0 hb=some l) (e:zi (ev ax tm) h sz l hb=some (v,h')) :
  gG C g U h ((execOp (alc tmps) o).run C.P w) v h':=by
 have rx:=bQ ht hx;have b1:=pM ht hhi e2;have b2:=pM ht hlo e3;have hbn:hb<=n:=by rcases b1 with⟨_,h⟩|⟨_,_,_,_,h⟩<;>omega
 have hlb:l<=hb:=by rcases b2 with⟨_,h⟩|⟨_,_,_,_,h⟩<;>omega
 have run:∀ a cap,n<=cap->alc tmps x=.slice a n cap->(execOp (alc tmps) o).run C.P w=.ok (.value (Dl a sz l hb cap)) w:=by
  intro a cap hcap hu;have hbds:=jq (C:=C) (w:=w) (tmps:=tmps) (b:=true) (len:=n) (cap:=cap) (l:=l) (hb:=hb) (lo:=lo) (hi:=hi)
   (by
     rcases b1 with q|⟨y,k,q1,q2,q3⟩
     ·exact .inl q
     ·exact .inr ⟨y,k,q1,q2,o_⟩) b2
  have:=yr (a:=a) hd hsz hbds;simp[execOp,ho,hu,this]
 generalize ev ax tm=a at rx e e1;cases a<;>first|(cases e;done)|skip
 case nl=>
  cases e1;have:hb=0:=o_;have:l=0:=o_;subst_vars;cases e;refine bc s (run none 0 (e_ _) rx.nils_inv) ?_;exact .nl
 case ls es=>
  obtain⟨hc,e⟩:=aN (c:=ew sz es) e;cases e;have e1:some (len es)=some n:=e1;rw[bH]at e1;cases e1;obtain⟨a,cap,hu,hcap,hcase⟩:=rx.lst_inv;refine bc s (run a cap hcap hu) ?_;rcases hcase with rfl|⟨sz',b,off,rfl,hs,ha,hr⟩
  ·have q1:hb=0:=by simpa using hbn
   subst q1;have q2:l=0:=o_;subst q2;exact .lst0
  ·by_cases hne:es=[]
   ·subst hne;have q1:hb=0:=by simpa using hbn
    subst q1;have q2:l=0:=o_;subst q2;exact .lst0
   ·have:=oH hc hs hne;subst this;rcases cut_list (m:=cap) hs ha hr hlb hbn o_ with⟨q1,q2⟩|⟨b',off',q1,q2,q3,q4,q5⟩
    ·rw[q1,q2];exact .lst0
    ·rw[q1];exact .ls q2 q3 q5.symm o_ q4
 case clip es=>
  obtain⟨hc,e⟩:=aN (c:=ew sz es) e;cases e;have e1:some (len es)=some n:=e1;rw[bH]at e1;cases e1;obtain⟨a,hu,hcase⟩:=rx.clip_inv;refine bc s (run a _ (e_ _) hu) ?_;rcases hcase with rfl|⟨sz',b,off,rfl,hs,ha,hr⟩
  ·have q1:hb=0:=by simpa using hbn
   subst q1;have q2:l=0:=o_;subst q2;exact .lst0
  ·by_cases hne:es=[]
   ·subst hne;have q1:hb=0:=by simpa using hbn
    subst q1;have q2:l=0:=o_;subst q2;exact .lst0
   ·have:=oH hc hs hne;subst this;rcases cut_list (m:=es.length) hs ha hr hlb hbn o_ with⟨q1,q2⟩|⟨b',off',q1,q2,q3,q4,q5⟩
    ·rw[q1,q2];exact .lst0
    ·rw[q1];exact .ls q2 q3 q5.symm o_ q4
 case row k gn sz' off m=>
  obtain⟨hc,e⟩:=aN (c:=Nat.beq sz' sz) e;cases e;have hc:=beq_eq hc;subst hc;cases e1;obtain⟨lc,a,hl,hs,hle,hu,ha⟩:=rx.row_inv;refine bc s (run a _ o_ hu) ?_;have ea:Nat.add off l=off+l:=rfl;have es:Nat.sub hb l=hb-l:=rfl;rw[ea,es];unfold Dl;by_cases hz:lc.cap-off=l
  ·rw[P_ hz];have q1:hb-l=0:=o_;have q2:lc.cap-off-l=0:=o_;rw[q1,q2];exact .row0 hl hs o_
  ·rw[N_ hz];rcases ha with rfl|⟨q1,q2⟩
   ·have:=bA.row (g:=g) (k:=k) (n:=gn) (sz:=sz') (off:=off+l) (len:=hb-l) hl hs o_;rw[show lc.cap-off-l=lc.cap-(off+l) by omega];rw[Nat.add_mul,<- Nat.add_assoc]at this;simpa [iM] using this
   ·omega
theorem mF (s:Sim C g U h w){k n sz:Nat}{r:Bool×List AV×Nat}{l:Loc}(hl:g.ρ k n=some l)(e:iS h k n sz=some r):
  h.get k=some (.row n sz r.1 r.2.1 r.2.2)/\U k=none/\g.w0.heap.size<=l.block/\OAt C g w k l (.row n sz r.1 r.2.1 r.2.2):=by
 obtain⟨o,ho,e⟩:=aA e;obtain⟨q,hq,e⟩:=aA e;obtain⟨hc,e⟩:=aN e;cases e;obtain⟨c1,c2⟩:=cR hc;have d1:=beq_eq c1;have d2:=beq_eq c2;clear c1 c2 hc;cases o<;>first|(cases hq;done)|skip
 case row n' sz' agg cs fz=>
  cases hq;simp only at d1 d2;subst d1;subst d2;have hu:=s.live hl;obtain⟨l',h1,h2,h3⟩:=s.obj k _ ho hu;have h1:g.ρ k n=some l':=h1;rw[hl]at h1;cases h1;exact⟨ho,hu,h2,h3⟩
theorem xD (s:Sim C g U h w)(ht:ep g tm tmps){o:Oper}{t el:TypeId}{x mx:Operand}{lo hi:Option Operand}{ax amx:AX}{alo ahi:Option AX}{sz n hb l:Nat}(ho:o.op=.slice t x lo hi (some mx))
  (hd:und C.T t=some (.slice el)) (hsz:szT C.T el=some sz) (hp:0<sz) (hx:cX x=some ax) (hlo:oA lo=some alo) (hhi:oA hi=some ahi) (hmx:cX mx=some amx) {yy:AX} (hsome:ahi=some yy)
  (e1:BV (ev ax tm)=some n) (e2:xt ahi tm n n=some hb) (e3:xt alo tm 0 hb=some l) (e4:lB (ev amx tm) n=some hb) (e:Zf (ev ax tm) h sz l hb=some (v,h')) :
  gG C g U h ((execOp (alc tmps) o).run C.P w) v h':=by
 have rx:=bQ ht hx;have b1:=pM ht hhi e2;have b2:=pM ht hlo e3;have hbn:hb<=n:=by rcases b1 with⟨_,h⟩|⟨_,_,_,_,h⟩<;>omega
 have hlb:l<=hb:=by rcases b2 with⟨_,h⟩|⟨_,_,_,_,h⟩<;>omega
 obtain⟨⟨k4,h4⟩,_⟩:=nw e4;have rm:=bQ ht hmx;rw[h4]at rm;have run:∀ a cap,n<=cap->alc tmps x=.slice a n cap->(execOp (alc tmps) o).run C.P w=.ok (.value (Dl a sz l hb hb)) w:=by
  intro a cap hcap hu;rcases b1 with⟨q1,_⟩|⟨y,k,rfl,q2,q3⟩
  ·subst q1;cases hhi;cases hsome
  ·have hbds:=nE (C:=C) (w:=w) (tmps:=tmps) (len:=n) (cap:=cap) (l:=l) (hb:=hb) (lo:=lo) q2 rm.int_inv o_ b2;have:=yr (a:=a) hd hsz hbds;simp[execOp,ho,hu,this]
 generalize ev ax tm=a at rx e e1;cases a<;>first|(cases e;done)|skip
 case nl=>
  cases e1;have:hb=0:=o_;have:l=0:=o_;subst_vars;cases e;refine bc s (run none 0 (e_ _) rx.nils_inv) ?_;exact .nl
 case ls es=>
  obtain⟨hc,e⟩:=aN (c:=ew sz es) e;cases e;have e1:some (len es)=some n:=e1;rw[bH]at e1;cases e1;obtain⟨a,cap,hu,hcap,hcase⟩:=rx.lst_inv;refine bc s (run a cap hcap hu) ?_;rcases hcase with rfl|⟨sz',b,off,rfl,hs,ha,hr⟩
  ·have q1:hb=0:=by simpa using hbn
   subst q1;have q2:l=0:=o_;subst q2;exact .clip0
  ·by_cases hne:es=[]
   ·subst hne;have q1:hb=0:=by simpa using hbn
    subst q1;have q2:l=0:=o_;subst q2;exact .clip0
   ·have:=oH hc hs hne;subst this;rcases cut_list (m:=hb) hs ha hr hlb hbn (e_ _) with⟨q1,q2⟩|⟨b',off',q1,q2,q3,q4,q5⟩
    ·rw[q1,q2];have:hb-l=0:=by
      have:=congrArg List.length q1;rw[iB,fa]at this;have hsub:Nat.sub hb l=hb-l:=rfl;rw[hsub]at this;simp at this;omega
     rw[this];exact .clip0
    ·rw[q1];exact .clip q2 q3 q5.symm q5 q4
 case clip es=>
  obtain⟨hc,e⟩:=aN (c:=ew sz es) e;cases e;have e1:some (len es)=some n:=e1;rw[bH]at e1;cases e1;obtain⟨a,hu,hcase⟩:=rx.clip_inv;refine bc s (run a _ (e_ _) hu) ?_;rcases hcase with rfl|⟨sz',b,off,rfl,hs,ha,hr⟩
  ·have q1:hb=0:=by simpa using hbn
   subst q1;have q2:l=0:=o_;subst q2;exact .clip0
  ·by_cases hne:es=[]
   ·subst hne;have q1:hb=0:=by simpa using hbn
    subst q1;have q2:l=0:=o_;subst q2;exact .clip0
   ·have:=oH hc hs hne;subst this;rcases cut_list (m:=hb) hs ha hr hlb hbn (e_ _) with⟨q1,q2⟩|⟨b',off',q1,q2,q3,q4,q5⟩
    ·rw[q1,q2];have:hb-l=0:=by
      have:=congrArg List.length q1;rw[iB,fa]at this;have hsub:Nat.sub hb l=hb-l:=rfl;rw[hsub]at this;simp at this;omega
     rw[this];exact .clip0
    ·rw[q1];exact .clip q2 q3 q5.symm q5 q4
 case row k gn sz' off m=>
  obtain⟨hc,e⟩:=aN (c:=Nat.beq sz' sz) e;have hc:=beq_eq hc;subst hc;obtain⟨r,hr,e⟩:=aA e;obtain⟨es,hes,e⟩:=aA e;cases e;cases e1;obtain⟨lc,a,hl,hs,hle,hu,ha⟩:=rx.row_inv;obtain⟨r1,r2,r3,r4⟩:=mF s hl hr;obtain⟨q1,q2,us,t',q3,q4,q5,q6,q7,q8,q9⟩:=r4;rw[fa]at hes;have hoff:Nat.mul (Nat.add off l) sz'=(off+l)*sz':=rfl;have hsub:Nat.sub hb l=hb-l:=rfl;have hoh:Nat.mul (Nat.add off hb) sz'=(off+hb)*sz':=rfl;rw[hoff,hsub]at hes;have ch:=jX hes (da q7 _);obtain⟨ex,s'⟩:=s.shut (m:=(off+hb)*sz') r1 r2 hl q3;rw[acu,hoh];refine⟨_,w,_,.inl (run a _ o_ hu),ex,s',?_,Low.set _ _ _⟩;by_cases hz:hb=l
  ·subst hz;have:es=[]:=by have:=ch.len;rw[Nat.sub_self]at this;exact List.length_eq_zero_iff.1 this
   subst this;unfold Dl;rw[Nat.sub_self];exact .clip0
  ·rcases ha with rfl|⟨q,_⟩
   ·have hcl:=ch.le;simp only[List.length_drop]at hcl;have hmul:(off+l)*sz'+(hb-l)*sz'=(off+hb)*sz':=by rw[<- Nat.add_mul];congr 1;omega
    have hpos:0<(hb-l)*sz':=Nat.mul_pos o_ hp;unfold Dl;rw[N_ hz];simp only[Option.map_some,iM];have haddr:lc.base+off*sz'+l*sz'=lc.base+(off+l)*sz':=by rw[Nat.add_mul];omega
    rw[haddr];refine .clip ch.size ?_ ch.len.symm ch.len ?_
    ·rw[ch.flat];exact eR (da q7 _) _
    ·rw[ch.flat];refine eu.mk (us:=((((us.toList.drop lc.base).take r.2.1.length).drop ((off+l)*sz')).take ((hb-l)*sz'))) (((q6.mono ex).drop _).take _) fun i u hi=>?_
     have hi1:i<(hb-l)*sz':=by
      rw[List.getElem?_take]at hi;split at hi
      ·assumption
      ·cases hi
     rw[List.getElem?_take,P_ hi1,List.getElem?_drop,List.getElem?_take]at hi;split at hi
     ·have:=Gh.fz_at g lc.block lc.base ((us.toList.drop lc.base).take ((off+hb)*sz')) (i:=(off+l)*sz'+i) (u:=u)
       (by rw[List.getElem?_take,P_ o_];exact hi)
      rw[<- Nat.add_assoc]at this;exact this
     ·cases hi
   ·omega
theorem Cr (s:Sim C g U h w)(ht:ep g tm tmps){o:Oper}{t:TypeId}{x:Operand}{lo hi:Option Operand}{ax:AX}{alo ahi:Option AX}(ho:o.op=.slice t x lo hi none)
  (hd:und C.T t=some .string) (hx:cX x=some ax) (hlo:oA lo=some alo) (hhi:oA hi=some ahi) (e:okV (gQ (ev ax tm) tm alo ahi) h=.val v h') :
  gG C g U h ((execOp (alc tmps) o).run C.P w) v h':=by
 obtain⟨e',rfl⟩:=dx e;clear e;obtain⟨sv,hsv,e'⟩:=aA e';obtain⟨hb,e2,e'⟩:=aA e';obtain⟨l,e3,e'⟩:=aA e';cases e';have rx:=bQ ht hx;rw[kh hsv]at rx;have b1:=pM ht hhi e2;have b2:=pM ht hlo e3;have hbds:=jq (C:=C) (w:=w) (tmps:=tmps) (b:=false) (len:=sv.size) (cap:=sv.size) b1 b2;refine bc s ?_ (.str _);simp[execOp,ho,rx.str_inv,Instr.sliceAt,bj hd,Instr.slice,hbds]
end
