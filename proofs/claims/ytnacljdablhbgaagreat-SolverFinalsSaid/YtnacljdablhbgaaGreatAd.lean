/- AbsGo: one operation of the evaluator's is one of the model's: arithmetic, comparisons, conversions (no condition). -/
import Derived.Test.YtnacljdablhbgaaGreatAc
import Derived.Laws.Strings
namespace Go.AG
theorem zR:∀a b:List UInt8,aeW a b=(a==b)
 |[],[]=>rfl
 |[],_::_=>rfl
 |_::_,[]=>rfl
 |x::a,y::b=>by
  show and (Nat.beq x.toNat y.toNat) (aeW a b)=_;rw[zR a b];by_cases h:x=y
  ·subst h;simp
  ·have:x.toNat≠y.toNat:=fun q=>h (UInt8.toNat_inj.1 q)
   rw[Dr this];have h2:(x==y)=false:=by simpa using h
   simp[h2]
theorem oR (a b:ByteArray):Ds a b=(a.toList==b.toList):=by
 rw[ByteArray.toList_eq,ByteArray.toList_eq];exact zR _ _
theorem kY (a b:ByteArray):Ds a b=(a==b):=by
 have e:(a==b)=(a.data==b.data):=rfl;unfold Ds;rw[zR,e];by_cases h:a.data=b.data
 ·rw[h];simp
 ·have:¬a.data.toList=b.data.toList:=fun q=>h (Array.ext' q)
  have h2:(a.data==b.data)=false:=by simpa using h
  rw[h2];simpa using this
theorem qV (a b:ByteArray):Fh a b=Op.bytesLess a.toList b.toList:=by
 rw[ByteArray.toList_eq,ByteArray.toList_eq];rfl
section
variable {C:Cx}{g:Gh}{U:Nat->Option (List AV)}{h h':AH}{w:World}{tm:Tm}{tmps:Array Value}{v:AV}
theorem uQ (a b:Int):(!(leI b a))=decide (a<b):=by
 rw[qK];by_cases h:b<=a
 ·simp[h]
 ·simp[h];omega
theorem Ww {op:BinOp}{k:IntKind}{a b:Int}{t:TypeId}(e:mQ op k a b=some v){k':IntKind}(hk:oQ op=true∨k'=k):
  ∃u,(binOp op t (.int k a) (.int k' b)).run C.P w=.ok u w/\bu g v u:=by
 cases op
 case shl=>
  obtain⟨m,hm,e⟩:=ah (o:=Zp b) e;cases e;cases b with
  |ofNat m'=>
   cases hm;refine⟨_,?_,.int _ _⟩;have:¬((m:Int)<0):=by omega
   simp[binOp,Op.shift,this]
  |negSucc m'=>cases hm
 case shr=>
  obtain⟨m,hm,e⟩:=ah (o:=Zp b) e;cases e;cases b with
  |ofNat m'=>
   cases hm;refine⟨_,?_,.int _ _⟩;have:¬((m:Int)<0):=by omega
   simp[binOp,Op.shift,this]
  |negSucc m'=>cases hm
 all_goals
  have hk:k'=k:=by rcases hk with x|x<;>first|exact x|(cases x)
  subst hk
 case quo=>
  obtain⟨hc,e⟩:=fZ (c:=BU b 0) e;rw[kP]at hc;have hb:¬b=0:=by simpa using hc
  cases e;rw[gG];exact⟨_,by first|(simp[binOp,Op.intDiv,hb];done)|(simp[binOp,Op.intDiv,hb];rfl),.int _ _⟩
 case rem=>
  obtain⟨hc,e⟩:=fZ (c:=BU b 0) e;rw[kP]at hc;have hb:¬b=0:=by simpa using hc
  cases e;exact⟨_,by first|(simp[binOp,Op.intDiv,hb];done)|(simp[binOp,Op.intDiv,hb];rfl),.int _ _⟩
 all_goals cases e
 case add=>rw[gG];exact⟨_,by first|(simp[binOp,Op.intArith];done)|(simp[binOp,Op.intArith];rfl),.int _ _⟩
 case sub=>rw[gG];exact⟨_,by first|(simp[binOp,Op.intArith];done)|(simp[binOp,Op.intArith];rfl),.int _ _⟩
 case mul=>rw[gG];exact⟨_,by first|(simp[binOp,Op.intArith];done)|(simp[binOp,Op.intArith];rfl),.int _ _⟩
 case eql=>rw[kP];exact⟨_,by simp[binOp,Op.intCmp],.bool _⟩
 case neq=>rw[kP];exact⟨.bool (a != b),by simp[binOp,Op.intCmp],.bool _⟩
 case lss=>rw[uQ];exact⟨_,by simp[binOp,Op.intCmp],.bool _⟩
 case leq=>rw[qK];exact⟨_,by simp[binOp,Op.intCmp],.bool _⟩
 case gtr=>rw[uQ];exact⟨_,by simp[binOp,Op.intCmp],.bool _⟩
 case geq=>rw[qK];exact⟨_,by simp[binOp,Op.intCmp],.bool _⟩
 case and=>exact⟨_,by first|(simp[binOp,Op.intBits];done)|(simp[binOp,Op.intBits];rfl),.int _ _⟩
 case or=>exact⟨_,by first|(simp[binOp,Op.intBits];done)|(simp[binOp,Op.intBits];rfl),.int _ _⟩
 case xor=>exact⟨_,by first|(simp[binOp,Op.intBits];done)|(simp[binOp,Op.intBits];rfl),.int _ _⟩
 case andNot=>exact⟨_,by first|(simp[binOp,Op.intBits];done)|(simp[binOp,Op.intBits];rfl),.int _ _⟩
theorem Wv {op:BinOp}{a b:ByteArray}{t:TypeId}(e:Fj op a b=some v):
  ∃u,(binOp op t (.string a) (.string b)).run C.P w=.ok u w/\bu g v u:=by
 cases op<;>first|(cases e;done)|skip
 case add=>
  obtain⟨hc,e⟩:=fZ (c:=Nat.blt 9223372036854775807 (Nat.add a.size b.size)) e;have hc:=LB hc;have hc:a.size+b.size<=9223372036854775807:=hc;cases e;have hm:IntKind.i64.max=9223372036854775807:=rfl;have:¬(((a.size+b.size:Nat):Int) > IntKind.i64.max):=by rw[hm];omega
  exact⟨_,by simp only[binOp,Op.stringOp,this,if_false,Sem.run_pure],.str _⟩
 all_goals cases e
 case eql=>rw[oR];exact⟨_,by simp[binOp,Op.stringOp],.bool _⟩
 case neq=>rw[oR];exact⟨_,by simp[binOp,Op.stringOp],.bool _⟩
 case lss=>rw[qV];exact⟨_,by simp[binOp,Op.stringOp],.bool _⟩
 case leq=>rw[qV,oR];exact⟨_,by simp[binOp,Op.stringOp],.bool _⟩
 case gtr=>rw[qV,oR];exact⟨_,by simp[binOp,Op.stringOp],.bool _⟩
 case geq=>rw[qV];exact⟨_,by simp[binOp,Op.stringOp],.bool _⟩
end
section
variable {C:Cx}{g:Gh}{U:Nat->Option (List AV)}{h h':AH}{w:World}{tm:Tm}{tmps:Array Value}{v:AV}
theorem sameKey_cases {t:Nat}{a b:AV}{r:Bool}(e:cE t a b=some r):
  (t=1/\∃k m n,a=.int k m/\b=.int k n/\r=(m==n))∨(t=2/\∃x y,a=.str x/\b=.str y/\r=Ds x y)∨(t≠1/\t≠2/\∃x y,a=.bool x/\b=.bool y/\r=(x==y)):=by
 unfold cE at e;cases h1:Nat.beq t 1 with
 |true=>
  rw[h1]at e;obtain⟨p,hp,e⟩:=ah (o:=zc a) e;obtain⟨q,hq,e⟩:=ah e;obtain⟨hc,e⟩:=aH e;cases e;have:=Ji hc;obtain⟨pk,pn⟩:=p;obtain⟨qk,qn⟩:=q;simp only at this;subst this;exact .inl ⟨beq_eq h1,pk,pn,qn,iw hp,iw hq,kP _ _⟩
 |false=>
  have n1:t≠1:=fun q=>by rw[q]at h1;cases h1
  rw[h1]at e;simp only[cond_false]at e;cases h2:Nat.beq t 2 with
  |true=>
   rw[h2]at e;obtain⟨p,hp,e⟩:=ah (o:=yr a) e;obtain⟨q,hq,e⟩:=ah e;cases e;exact .inr (.inl ⟨beq_eq h2,p,q,kj hp,kj hq,rfl⟩)
  |false=>
   have n2:t≠2:=fun q=>by rw[q]at h2;cases h2
   rw[h2]at e;obtain⟨p,hp,e⟩:=ah (o:=BF a) e;obtain⟨q,hq,e⟩:=ah e;cases e;exact .inr (.inr ⟨n1,n2,p,q,py hp,py hq,xt _ _⟩)
theorem tagD_ok {d:TypeDesc}{n:Nat}(e:LU d=some n):(n=0/\d=.bool)∨(n=1/\∃k,d=.int k)∨(n=2/\d=.string):=by
 cases d<;>first|(cases e;done)|skip
 case bool=>cases e;exact .inl ⟨rfl,rfl⟩
 case int k=>cases e;exact .inr (.inl ⟨rfl,k,rfl⟩)
 case string=>cases e;exact .inr (.inr ⟨rfl,rfl⟩)
theorem kU {t:TypeId}{d:TypeDesc}{n:Nat}{a b:AV}{x y:Value}{r:Bool}(hd:und C.T t=some d)(hn:LU d=some n)(ha:bu g a x)(hb:bu g b y)
  (e:cE n a b=some r) (depth:Nat):(Op.equalIn (depth+1) t x y).run C.P w=.ok r w:=by
 rcases sameKey_cases e with⟨rfl,k,m,m',rfl,rfl,rfl⟩|⟨rfl,s,s',rfl,rfl,rfl⟩|⟨n1,n2,p,q,rfl,rfl,rfl⟩
 ·rcases tagD_ok hn with⟨h0,_⟩|⟨_,k',rfl⟩|⟨h0,_⟩
  ·omega
  ·rw[ha.int_inv,hb.int_inv];simp[Op.equalIn,bh hd]
  ·omega
 ·rcases tagD_ok hn with⟨h0,_⟩|⟨h0,_⟩|⟨_,rfl⟩
  ·omega
  ·omega
  ·rw[ha.str_inv,hb.str_inv,kY];simp[Op.equalIn,bh hd]
 ·rcases tagD_ok hn with⟨_,rfl⟩|⟨h0,_⟩|⟨h0,_⟩
  ·rw[ha.bool_inv,hb.bool_inv];simp[Op.equalIn,bh hd]
  ·omega
  ·omega
theorem eqNil_some {a b:Nat}{r:Bool}(e:rZ a b=some r):(a=0/\b=0/\r=true)∨(a=0/\b=1/\r=false)∨(a=1/\b=0/\r=false):=by
 unfold rZ at e;cases h1:Nat.beq (Nat.add a b) 0 with
 |true=>
  rw[h1]at e;cases e;have:=beq_eq h1;have:a+b=0:=this;exact .inl ⟨by omega,by omega,rfl⟩
 |false=>
  rw[h1]at e;obtain⟨h2,e⟩:=aH (c:=Nat.beq (Nat.add a b) 1) e;cases e;have:=beq_eq h2;have:a+b=1:=this;rcases Nat.eq_zero_or_pos a with x|x
  ·exact .inr (.inl ⟨x,by omega,rfl⟩)
  ·exact .inr (.inr ⟨by omega,by omega,rfl⟩)
theorem oW {a:AV}{x:Value}(hv:bu g a x)(e:Uv a=0):x=.pointer none:=by cases a<;>first|(cases e;done)|exact hv.nilp_inv
theorem Ar {a:AV}{x:Value}(hv:bu g a x)(e:Uv a=1):∃p,x=.pointer (some p):=by
 cases a<;>first|(cases e;done)|skip
 case ptr=>obtain⟨l,_,h⟩:=hv.ptr_inv;exact⟨_,h⟩
 case vptr=>obtain⟨b,off,_,_,h⟩:=hv.vptr_inv;exact⟨_,h⟩
theorem tH {a:AV}{x:Value}(hv:bu g a x)(e:Uw a=0):x=.map none:=by cases a<;>first|(cases e;done)|exact hv.nilm_inv
theorem GR {a:AV}{x:Value}(hv:bu g a x)(e:Uw a=1):∃p,x=.map (some p):=by
 cases a<;>first|(cases e;done)|skip
 case map=>obtain⟨l,_,h⟩:=hv.map_inv;exact⟨_,h⟩
theorem tJ {a:AV}{x:Value}(hv:bu g a x)(e:Ux a=0):x=.nilFunc:=by cases a<;>first|(cases e;done)|exact hv.nilf_inv
theorem GS {a:AV}{x:Value}(hv:bu g a x)(e:Ux a=1):∃f p q,x=.func f p q:=by
 cases a<;>first|(cases e;done)|skip
 case fn=>obtain⟨x',y',_,_,h⟩:=hv.fn_inv;exact⟨_,_,_,h⟩
theorem tI {a:AV}{x:Value}(hv:bu g a x)(e:Dq a=0):x=.nilIface:=by cases a<;>first|(cases e;done)|exact hv.nili_inv
theorem wJ {a:AV}{x:Value}(hv:bu g a x)(e:Dq a=1):∃t p,x=.iface t p:=by
 cases a<;>first|(cases e;done)|skip
 case ifc=>obtain⟨x',_,h⟩:=hv.ifc_inv;exact⟨_,_,h⟩
theorem Aq {a:AV}{x:Value}(hv:bu g a x)(e:Zm a=0):x=.slice none 0 0:=by
 cases a<;>first|(cases e;done)|skip
 case nl=>exact hv.nils_inv
 case ls es=>cases es<;>cases e
 case clip es=>cases es<;>cases e
 case row k n sz off m=>cases m<;>cases e
theorem Tw {a:AV}{x:Value}(hv:bu g a x)(e:Zm a=1):∃p m c,x=.slice (some p) m c:=by
 cases a<;>first|(cases e;done)|skip
 case ls es=>
  cases es with
  |nil=>cases e
  |cons y es=>
   obtain⟨a,cap,h,_,hc⟩:=hv.lst_inv;rcases hc with hc|⟨sz,b,off,rfl,_⟩
   ·cases hc
   ·exact⟨_,_,_,h⟩
 case clip es=>
  cases es with
  |nil=>cases e
  |cons y es=>
   obtain⟨a,h,hc⟩:=hv.clip_inv;rcases hc with hc|⟨sz,b,off,rfl,_⟩
   ·cases hc
   ·exact⟨_,_,_,h⟩
 case row k n sz off m=>
  cases m with
  |zero=>cases e
  |succ m=>
   obtain⟨l,a,_,_,_,h,hc⟩:=hv.row_inv;rcases hc with rfl|⟨hc,_⟩
   ·exact⟨_,_,_,h⟩
   ·omega
theorem wk {us ys:List Value}{as bs:List AV}(hu:aR g as us)(hy:aR g bs ys)(depth:Nat):
  ∀(fs:List Field) (l:List (Nat×Nat)) (r:Bool),jx (mq C.T) fs=some l->rS l as bs=some r->
   (forIn (m:=Sem) fs ((none,()):Option Bool×Unit) fun f _=>
    if f.name≠ "_" then do
     let a <-part f.type ⟨us⟩ f.offset
     let b <-part f.type ⟨ys⟩ f.offset
     let c <-Op.equalIn (depth+1) f.type a b
     if (!c)=true then pure (ForInStep.done (some false,())) else pure (ForInStep.yield (none,()))
    else pure (ForInStep.yield (none,()))).run C.P w=.ok (if r then (none,()) else (some false,())) w:=by
 intro fs;induction fs with
 |nil=>intro l r e1 e2;cases e1;cases e2;simp
 |cons f fs ih=>
  intro l r e1 e2;obtain⟨p,l',hp,hl,rfl⟩:=bT e1;unfold mq at hp;split at hp
  ·cases hp
  ·rename_i hname;obtain⟨d,hd,hp⟩:=ah hp;obtain⟨n,hn,hp⟩:=ah hp;obtain⟨sz,hsz,hp⟩:=ah hp;cases hp;have e2:aq (pK f.offset as) (fun x=>aq (pK f.offset bs) fun y=>aq (cE n x y) fun s=>cond s (rS l' as bs) (some false))=some r:=e2;obtain⟨x,hx,e2⟩:=ah e2;obtain⟨y,hy',e2⟩:=ah e2;obtain⟨b,hb',e2⟩:=ah e2;rw[iQ]at hx hy';obtain⟨xu,hxu,rx⟩:=hu.get hx;obtain⟨yu,hyu,ry⟩:=hy.get hy';have hag:cn C.T f.type=false:=by
    unfold cn;rw[hd];rcases tagD_ok hn with⟨_,rfl⟩|⟨_,k,rfl⟩|⟨_,rfl⟩<;>rfl
   have p1:(part f.type ⟨us⟩ f.offset).run C.P w=.ok xu w:=by
    simp[part,mh hd,hag,hxu]
   have p2:(part f.type ⟨ys⟩ f.offset).run C.P w=.ok yu w:=by
    simp[part,mh hd,hag,hyu]
   have heq:=kU (w:=w) hd hn rx ry hb' depth;rw[List.forIn_cons];simp only[ne_eq,hname,not_false_eq_true,if_true,Sem.run_bind,p1,p2,heq,Result.andThen_ok];cases b with
   |false=>
    cases e2;simp
   |true=>
    have e2:rS l' as bs=some r:=e2;simp only[Bool.not_true,Bool.false_eq_true,if_false,Sem.run_pure,Result.andThen_ok];exact ih l' r hl e2
end
section
variable {C:Cx}{g:Gh}{U:Nat->Option (List AV)}{h h':AH}{w:World}{tm:Tm}{tmps:Array Value}{v:AV}
theorem rC {t:TypeId}{fs:Array Field}{l:List (Nat×Nat)}{as bs:List AV}{us ys:List Value}{r:Bool}(hd:und C.T t=some (.struct fs))(hs:C.P.stoodInHeld t=false)
  (hl:jx (mq C.T) fs.toList=some l) (hu:aR g as us) (hy:aR g bs ys) (e:rS l as bs=some r):(Op.equal t (.agg ⟨us⟩) (.agg ⟨ys⟩)).run C.P w=.ok r w:=by
 have key:=wk (C:=C) (w:=w) hu hy 9998 fs.toList l r hl e;show(Op.equalIn (9999+1) t _ _).run C.P w=_;unfold Op.equalIn;simp only[Sem.run_bind,bh hd,Result.andThen_ok,run_program,hs,Bool.false_eq_true,if_false,<-Array.forIn_toList];rw[key];cases r<;>rfl
theorem xz {t:TypeId}{c:Bool}{k:EqK}{a b:AV}{x y:Value}{r:Bool}(hk:eqK C.P C.T t c=some k)(ha:bu g a x)(hb:bu g b y)(e:Zq k a b=some r):
  (Op.equal t x y).run C.P w=.ok r w/\((x=.nilIface/\y=.nilIface)->c=true)/\((∃p q,x=.agg p/\y=.agg q)->C.P.eqGuardType C.P.depth t=false):=by
 obtain⟨d,hd,hk⟩:=ah hk;show(Op.equalIn (9999+1) t x y).run C.P w=_/\_;cases d<;>first|(cases hk;done)|skip
 case bool=>
  cases hk;have e:cE 0 a b=some r:=e;refine⟨kU hd rfl ha hb e 9999,?_,?_⟩
  all_goals
   rcases sameKey_cases e with⟨h0,_⟩|⟨h0,_⟩|⟨_,_,p,q,rfl,rfl,_⟩
   ·omega
   ·omega
   ·rw[ha.bool_inv,hb.bool_inv];rintro⟨h1,h2⟩;first|(cases h1;done)|(obtain⟨_,h1,_⟩:=h2;cases h1)
 case int=>cases hk;cases e
 case string=>cases hk;cases e
 case pointer el=>
  generalize 9999=dep;obtain⟨n,hn,hk⟩:=ah (o:=szT C.T el) hk;obtain⟨hc,hk⟩:=fZ hk;cases hk;have e:rZ (Uv a) (Uv b)=some r:=e;have ex:∃p q,x=.pointer p/\y=.pointer q:=by
   rcases eqNil_some e with⟨h1,h2,_⟩|⟨h1,h2,_⟩|⟨h1,h2,_⟩
   ·exact⟨_,_,oW ha h1,oW hb h2⟩
   ·obtain⟨q,hq⟩:=Ar hb h2;exact⟨_,_,oW ha h1,hq⟩
   ·obtain⟨q,hq⟩:=Ar ha h1;exact⟨_,_,hq,oW hb h2⟩
  refine⟨?_,?_,?_⟩
  ·rcases eqNil_some e with⟨h1,h2,rfl⟩|⟨h1,h2,rfl⟩|⟨h1,h2,rfl⟩
   ·rw[oW ha h1,oW hb h2];simp[Op.equalIn,bh hd]
   ·obtain⟨q,hq⟩:=Ar hb h2;rw[oW ha h1,hq];simp[Op.equalIn,bh hd]
   ·obtain⟨q,hq⟩:=Ar ha h1;rw[hq,oW hb h2];simp[Op.equalIn,bh hd]
  ·obtain⟨p,q,rfl,rfl⟩:=ex;rintro⟨h1,_⟩;cases h1
  ·obtain⟨p,q,rfl,rfl⟩:=ex;rintro⟨p',q',h1,_⟩;cases h1
 case slice el=>
  generalize 9999=dep;cases hk;obtain⟨hc,e⟩:=aH (c:=Nat.beq (Zm b) 0) e;have hc:=beq_eq hc;have ex:∃p m c',x=.slice p m c':=by
   rcases eqNil_some e with⟨h1,_,_⟩|⟨_,h2,_⟩|⟨h1,_,_⟩
   ·exact⟨_,_,_,Aq ha h1⟩
   ·omega
   ·obtain⟨p,m,c',hq⟩:=Tw ha h1;exact⟨_,_,_,hq⟩
  refine⟨?_,?_,?_⟩
  ·rcases eqNil_some e with⟨h1,h2,rfl⟩|⟨h1,h2,rfl⟩|⟨h1,h2,rfl⟩
   ·rw[Aq ha h1,Aq hb hc];simp[Op.equalIn,bh hd]
   ·omega
   ·obtain⟨p,m,c',hq⟩:=Tw ha h1;rw[hq,Aq hb hc];simp[Op.equalIn,bh hd]
  ·obtain⟨p,m,c',rfl⟩:=ex;rintro⟨h1,_⟩;cases h1
  ·obtain⟨p,m,c',rfl⟩:=ex;rintro⟨p',q',h1,_⟩;cases h1
 case map kt el=>
  generalize 9999=dep;cases hk;have e:rZ (Uw a) (Uw b)=some r:=e;have ex:∃p,x=.map p:=by
   rcases eqNil_some e with⟨h1,_,_⟩|⟨h1,_,_⟩|⟨h1,_,_⟩
   ·exact⟨_,tH ha h1⟩
   ·exact⟨_,tH ha h1⟩
   ·obtain⟨q,hq⟩:=GR ha h1;exact⟨_,hq⟩
  refine⟨?_,?_,?_⟩
  ·rcases eqNil_some e with⟨h1,h2,rfl⟩|⟨h1,h2,rfl⟩|⟨h1,h2,rfl⟩
   ·rw[tH ha h1,tH hb h2];simp[Op.equalIn,bh hd]
   ·obtain⟨q,hq⟩:=GR hb h2;rw[tH ha h1,hq];simp[Op.equalIn,bh hd]
   ·obtain⟨q,hq⟩:=GR ha h1;rw[hq,tH hb h2];simp[Op.equalIn,bh hd]
  ·obtain⟨p,rfl⟩:=ex;rintro⟨h1,_⟩;cases h1
  ·obtain⟨p,rfl⟩:=ex;rintro⟨p',q',h1,_⟩;cases h1
 case func ps rs vd=>
  generalize 9999=dep;cases hk;have e:rZ (Ux a) (Ux b)=some r:=e;have ex:x=.nilFunc∨∃f p q,x=.func f p q:=by
   rcases eqNil_some e with⟨h1,_,_⟩|⟨h1,_,_⟩|⟨h1,_,_⟩
   ·exact .inl (tJ ha h1)
   ·exact .inl (tJ ha h1)
   ·exact .inr (GS ha h1)
  refine⟨?_,?_,?_⟩
  ·rcases eqNil_some e with⟨h1,h2,rfl⟩|⟨h1,h2,rfl⟩|⟨h1,h2,rfl⟩
   ·rw[tJ ha h1,tJ hb h2];simp[Op.equalIn,bh hd]
   ·obtain⟨f,p,q,hq⟩:=GS hb h2;rw[tJ ha h1,hq];simp[Op.equalIn,bh hd]
   ·obtain⟨f,p,q,hq⟩:=GS ha h1;rw[hq,tJ hb h2];simp[Op.equalIn,bh hd]
  ·rcases ex with rfl|⟨f,p,q,rfl⟩<;>(rintro⟨h1,_⟩;cases h1)
  ·rcases ex with rfl|⟨f,p,q,rfl⟩<;>(rintro⟨p',q',h1,_⟩;cases h1)
 case interface ms=>
  generalize 9999=dep;cases hk;obtain⟨hc,e⟩:=aH (c:=or c (Nat.beq (Nat.add (Dq a) (Dq b)) 1)) e;have ex:x=.nilIface∨∃t' p,x=.iface t' p:=by
   rcases eqNil_some e with⟨h1,_,_⟩|⟨h1,_,_⟩|⟨h1,_,_⟩
   ·exact .inl (tI ha h1)
   ·exact .inl (tI ha h1)
   ·exact .inr (wJ ha h1)
  refine⟨?_,?_,?_⟩
  ·rcases eqNil_some e with⟨h1,h2,rfl⟩|⟨h1,h2,rfl⟩|⟨h1,h2,rfl⟩
   ·rw[tI ha h1,tI hb h2];simp[Op.equalIn,bh hd]
   ·obtain⟨f,p,hq⟩:=wJ hb h2;rw[tI ha h1,hq];simp[Op.equalIn,bh hd]
   ·obtain⟨f,p,hq⟩:=wJ ha h1;rw[hq,tI hb h2];simp[Op.equalIn,bh hd]
  ·rintro⟨h1,h2⟩;rcases eqNil_some e with⟨q1,q2,_⟩|⟨_,q2,_⟩|⟨q1,_,_⟩
   ·cases c with
    |true=>rfl
    |false=>
     have:Nat.beq (Nat.add (Dq a) (Dq b)) 1=true:=by simpa using hc
     rw[q1,q2]at this;cases this
   ·obtain⟨f,p,hq⟩:=wJ hb q2;rw[hq]at h2;cases h2
   ·obtain⟨f,p,hq⟩:=wJ ha q1;rw[hq]at h1;cases h1
  ·rcases ex with rfl|⟨f,p,rfl⟩<;>(rintro⟨p',q',h1,_⟩;cases h1)
 case struct fs=>
  obtain⟨hc,hk⟩:=fZ (c:=C.P.stoodInHeld t||C.P.eqGuardType C.P.depth t) hk;obtain⟨l,hl,hk⟩:=ah hk;cases hk;have hc:C.P.stoodInHeld t=false/\C.P.eqGuardType C.P.depth t=false:=by simpa using hc
  obtain⟨as,has,e⟩:=ah (o:=Ma a) e;obtain⟨bs,hbs,e⟩:=ah e;rw[ki has]at ha;rw[ki hbs]at hb;obtain⟨us,_,hu,rfl⟩:=ha.agg_inv;obtain⟨ys,_,hy,rfl⟩:=hb.agg_inv;refine⟨rC hd hc.1 hl hu hy e,?_,fun _=>hc.2⟩;rintro⟨h1,_⟩;cases h1
end
section
variable {C:Cx}{g:Gh}{U:Nat->Option (List AV)}{h h':AH}{w:World}{tm:Tm}{tmps:Array Value}{v:AV}
theorem TB {x:Operand}(e:isC x=true):∃v,x=.const v:=by cases x<;>first|(cases e;done)|exact⟨_,rfl⟩
theorem fU {op:BinOp}{t:TypeId}{x y:Operand}{a b:Value}(h1:(a=.nilIface/\b=.nilIface)->(isC x||isC y)=true)
  (h2:(∃p q,a=.agg p/\b=.agg q)->C.P.eqGuardType C.P.depth t=false):(eqGuard op t x y a b).run C.P w=.ok () w:=by
 unfold eqGuard;cases op<;>first
  |rfl
  |(
    simp only[Bool.not_true,Bool.false_eq_true,if_false];split
    ·have:=h1 ⟨rfl,rfl⟩;cases hx:isC x with
     |true=>obtain⟨v,rfl⟩:=TB hx;simp
     |false=>
      have hy:isC y=true:=by simpa [hx] using this
      obtain⟨v,rfl⟩:=TB hy;simp
    ·have:=h2 ⟨_,_,rfl,rfl⟩;simp[this]
    ·rfl)
theorem adA (s:Sim C g U h w)(ht:eQ g tm tmps){o:Oper}{op:BinOp}{t t':TypeId}{x y:Operand}{ax ay:AX}{k:EqK}(ho:o.op=.binOp op t x y t')
  (hk:eqK C.P C.T t (isC x||isC y)=some k) (hx:cX x=some ax) (hy:cX y=some ay) (e:okV (mR (ev ax tm) op k (ev ay tm)) h=.val v h') :
  im C g U h ((execOp (gt tmps) o).run C.P w) v h':=by
 obtain⟨e',rfl⟩:=dJ e;clear e;have rx:=bN ht hx;have ry:=bN ht hy;have other:∀a,bu g a (gt tmps x)->(∀k n,a≠.int k n)->(∀s,a≠.str s)->TJ op k a (ev ay tm)=some v->im C g U h' ((execOp (gt tmps) o).run C.P w) v h':=by
  intro a ra hni hns e;cases op<;>first|(cases e;done)|skip
  case eql=>
   obtain⟨r,hr,e⟩:=ah (o:=Zq k a (ev ay tm)) e;cases e;obtain⟨q1,q2,q3⟩:=xz (w:=w) hk ra ry hr;refine aY s ?_ (.bool r);have hg:=fU (C:=C) (w:=w) (op:=.eql) (t:=t) (x:=x) (y:=y) q2 q3;have hb:(binOp .eql t (gt tmps x) (gt tmps y)).run C.P w=.ok (.bool r) w:=by
    generalize gt tmps x=X at *;generalize gt tmps y=Y at *;generalize ev ay tm=b at *;cases ra<;>first
     |(exact absurd rfl (hni _ _))
     |(exact absurd rfl (hns _))
     |(cases ry<;>first|(simp[binOp,q1];done)|(cases k<;>first|(cases hr;done)|(rename_i c;cases c<;>cases hr)))
   simp[execOp,ho,hg,hb]
  case neq=>
   obtain⟨r,hr,e⟩:=ah (o:=Zq k a (ev ay tm)) e;cases e;obtain⟨q1,q2,q3⟩:=xz (w:=w) hk ra ry hr;refine aY s ?_ (.bool (!r));have hg:=fU (C:=C) (w:=w) (op:=.neq) (t:=t) (x:=x) (y:=y) q2 q3;have hb:(binOp .neq t (gt tmps x) (gt tmps y)).run C.P w=.ok (.bool (!r)) w:=by
    generalize gt tmps x=X at *;generalize gt tmps y=Y at *;generalize ev ay tm=b at *;cases ra<;>first
     |(exact absurd rfl (hni _ _))
     |(exact absurd rfl (hns _))
     |(cases ry<;>first|(simp[binOp,q1];done)|(cases k<;>first|(cases hr;done)|(rename_i c;cases c<;>cases hr)))
   simp[execOp,ho,hg,hb]
 generalize ev ax tm=a at rx e';cases a
 case int k1 n=>
  generalize ev ay tm=b at ry e';cases b<;>first|(cases e';done)|skip
  case int k2 m=>
   obtain⟨hc,e'⟩:=aH (c:=or (oQ op) (LZ k1 k2)) e';have hc:oQ op=true∨k2=k1:=by
    cases hs:oQ op with
    |true=>exact .inl rfl
    |false=>rw[hs]at hc;exact .inr (Ji (by simpa using hc)).symm
   obtain⟨u,hu,hv⟩:=Ww (C:=C) (g:=g) (w:=w) (t:=t) e' hc;refine aY s ?_ hv;have hg:=fU (C:=C) (w:=w) (op:=op) (t:=t) (x:=x) (y:=y) (a:=.int k1 n) (b:=.int k2 m) (fun q=>by cases q.1) (fun⟨_,_,q,_⟩=>by cases q);simp[execOp,ho,rx.int_inv,ry.int_inv,hg,hu]
 case str n=>
  generalize ev ay tm=b at ry e';cases b<;>first|(cases e';done)|skip
  case str m=>
   obtain⟨u,hu,hv⟩:=Wv (C:=C) (g:=g) (w:=w) (t:=t) e';refine aY s ?_ hv;have hg:=fU (C:=C) (w:=w) (op:=op) (t:=t) (x:=x) (y:=y) (a:=.string n) (b:=.string m) (fun q=>by cases q.1) (fun⟨_,_,q,_⟩=>by cases q);simp[execOp,ho,rx.str_inv,ry.str_inv,hg,hu]
 all_goals exact other _ rx (fun _ _ q=>by cases q) (fun _ q=>by cases q) e'
theorem op_un (s:Sim C g U h w)(ht:eQ g tm tmps){o:Oper}{op:UnOp}{t:TypeId}{x:Operand}{ax:AX}(ho:o.op=.unOp op t x)(hx:cX x=some ax)
  (e:okV (Fx op (ev ax tm)) h=.val v h'):im C g U h ((execOp (gt tmps) o).run C.P w) v h':=by
 obtain⟨e',rfl⟩:=dJ e;clear e;have rx:=bN ht hx;cases op<;>first|(cases e';done)|skip
 case neg=>
  obtain⟨p,hp,e'⟩:=ah (o:=zc (ev ax tm)) e';cases e';rw[iw hp]at rx;rw[gG];refine aY s ?_ (.int _ _);simp[execOp,ho,rx.int_inv,Op.unary,Op.intArith];rw[show Int.sub 0 p.2=0-p.2 from rfl,Int.zero_sub]
 case not=>
  obtain⟨p,hp,e'⟩:=ah (o:=BF (ev ax tm)) e';cases e';rw[py hp]at rx;refine aY s ?_ (.bool _);simp[execOp,ho,rx.bool_inv,Op.unary]
theorem Xc (s:Sim C g U h w)(ht:eQ g tm tmps){o:Oper}{src dst:TypeId}{d d':TypeDesc}{x:Operand}{ax:AX}{aop:AOp}(ho:o.op=.convert src dst x)(hd:und C.T src=some d)
  (hd':und C.T dst=some d') (hx:cX x=some ax) (hc:abA d d' ax=some aop) (e:evOp aop tm h=.val v h'):im C g U h ((execOp (gt tmps) o).run C.P w) v h':=by
 have rx:=bN ht hx;cases d<;>first|(cases hc;done)|skip
 case int k0=>
  obtain⟨k,hk,hc⟩:=ah (o:=intK d') hc;cases hc;cases d'<;>first|(cases hk;done)|skip
  cases hk;obtain⟨e',rfl⟩:=dJ (r:=Ax k (ev ax tm)) e;clear e;obtain⟨p,hp,e'⟩:=ah e';cases e';rw[iw hp]at rx;rw[gG];refine aY s ?_ (.int _ _);simp[execOp,ho,rx.int_inv,convert,bh hd,bh hd',Conv.intToInt]
 case string=>
  cases d'<;>first|(cases hc;done)|skip
  cases hc;obtain⟨e',rfl⟩:=dJ (r:=rf (ev ax tm)) e;clear e;obtain⟨p,hp,e'⟩:=ah e';cases e';rw[kj hp]at rx;refine aY s ?_ (.str _);simp[execOp,ho,rx.str_inv,convert,bh hd,bh hd']
theorem DJ (s:Sim C g U h w)(ht:eQ g tm tmps){o:Oper}{t:TypeId}{d:TypeDesc}{x:Operand}{ax:AX}(ho:o.op=.makeInterface t x)(hd:und C.T t=some d)
  (hn:uV d=false) (hx:cX x=some ax):im C g U h ((execOp (gt tmps) o).run C.P w) (.ifc t (ev ax tm)) h:=by
 refine aY s ?_ (.ifc (bN ht hx));simp only[execOp,ho,Instr.makeInterface,Sem.run_bind,bh hd,Result.andThen_ok];cases d<;>first|(cases hn;done)|rfl
theorem WV (s:Sim C g U h w)(ht:eQ g tm tmps){o:Oper}{f:FuncId}{a b:Array Operand}{la lb:List AX}(ho:o.op=.makeFunc (.func f) a b)(ha:cXs a=some la)
  (hb:cXs b=some lb):im C g U h ((execOp (gt tmps) o).run C.P w) (.fn f (evs la tm) (evs lb tm)) h:=by
 refine aY s ?_ (.fn (mV ht ha) (mV ht hb));have e:∀c:Array Operand,c.map (gt tmps)=⟨c.toList.map (gt tmps)⟩:=fun c=>by apply Array.ext';simp
 simp only[execOp,ho,Instr.makeFunc,Sem.run_bind,Sem.run_pure,Result.andThen_ok,e]
theorem NG (s:Sim C g U h w){o:Oper}{t:TypeId}(ho:o.op=.makeMap t none):im C g U h ((execOp (gt tmps) o).run C.P w) (.map h.z) (h.new (.map [])):=by
 obtain⟨ex,s'⟩:=s.alloc (.map []) (.map #[] 0) ⟨w.heap.size,0,0,0⟩ rfl rfl ⟨#[],0,heap_alloc_new _ _,.nil,by simp,by simp⟩;refine⟨_,_,_,.inl ?_,ex,s',.map (l:=⟨w.heap.size,0,0,0⟩) (g.at_same _ _ _),Low.new _ _⟩;simp[execOp,ho,Instr.makeMap]
theorem Kr (s:Sim C g U h w)(ht:eQ g tm tmps){o:Oper}{t t':TypeId}{d:TypeDesc}{x:Operand}{ax:AX}{z:AV}{ok:Bool}(ho:o.op=.typeAssert x t' t ok)(hd:und C.T t=some d)
  (hn:uV d=false) (hx:cX x=some ax) (hz:jS C.T t=some z) (e:okV (kX (ev ax tm) t z ok) h=.val v h') :
  im C g U h ((execOp (gt tmps) o).run C.P w) v h':=by
 obtain⟨e',rfl⟩:=dJ e;clear e;have rx:=bN ht hx;obtain⟨i,zv,hi,hzv,hr,_⟩:=iM g hz;have zrun:=dt (w:=w) hi hzv;have run:∀y,(Instr.typeAssert (gt tmps x) t' t ok).run C.P w=.ok y w->(execOp (gt tmps) o).run C.P w=.ok (.value y) w:=by
  intro y hy;simp[execOp,ho,hy]
 generalize ev ax tm=a at rx e';cases a<;>first|(cases e';done)|skip
 case ifc t0 v0=>
  obtain⟨u,hu,hx'⟩:=rx.ifc_inv;have e2:cond (Nat.beq t0 t) (some (cond ok (.tup [v0,.bool true]) v0)) (cond ok (some (.tup [z,.bool false])) none)=some v:=e';clear e';cases hb:Nat.beq t0 t with
  |true=>
   rw[hb]at e2;have hb:=beq_eq hb;subst hb;cases e2;cases ok with
   |true=>
    refine aY s (run (.tuple #[u,.bool true]) ?_) (.tup (.cons hu (.cons (.bool _) .nil)));rw[hx'];unfold Instr.typeAssert;simp only[Sem.run_bind,bh hd,Result.andThen_ok];cases d<;>first|(cases hn;done)|simp
   |false=>
    refine aY s (run u ?_) hu;rw[hx'];unfold Instr.typeAssert;simp only[Sem.run_bind,bh hd,Result.andThen_ok];cases d<;>first|(cases hn;done)|simp
  |false=>
   rw[hb]at e2;have hne:¬t0=t:=fun q=>by rw[q,Nat.beq_refl]at hb;cases hb
   obtain⟨hok,e3⟩:=aH (c:=ok) e2;subst hok;cases e3;refine aY s (run (.tuple #[zv,.bool false]) ?_) (.tup (.cons hr (.cons (.bool _) .nil)));rw[hx'];unfold Instr.typeAssert;simp only[Sem.run_bind,bh hd,Result.andThen_ok];cases d<;>first|(cases hn;done)|simp[hne,zrun]
 case nili=>
  obtain⟨hok,e'⟩:=aH (c:=ok) e';subst hok;cases e';refine aY s (run (.tuple #[zv,.bool false]) ?_) (.tup (.cons hr (.cons (.bool _) .nil)));rw[rx.nili_inv];unfold Instr.typeAssert;simp only[Sem.run_bind,bh hd,Result.andThen_ok];cases d<;>first|(cases hn;done)|simp[zrun]
end
theorem jt (a b:List AV):flat (a++b)=flat a++flat b:=by
 induction a with
 |nil=>rfl
 |cons x a ih=>rw[List.cons_append,bO,ih,bO,List.append_assoc]
theorem vE {es:List AV}{sz l k:Nat}(hs:∀e∈es,e.cells.length=sz)(hl:l<=es.length):flat ((es.drop l).take k)=((flat es).drop (l*sz)).take (k*sz):=by
 have e1:es=es.take l++es.drop l:=(List.take_append_drop l es).symm;have h1:(flat (es.take l)).length=l*sz:=by
  rw[dY (fun e he=>hs e (List.mem_of_mem_take he)),List.length_take,Nat.min_eq_left hl]
 have e2:(flat es).drop (l*sz)=flat (es.drop l):=by
  conv=>lhs;rw[e1,jt]
  rw[List.drop_left' h1]
 rw[e2];have hs':∀e∈es.drop l,e.cells.length=sz:=fun e he=>hs e (List.mem_of_mem_drop he)
 generalize es.drop l=ys at hs';rcases Nat.lt_or_ge k ys.length with hk|hk
 ·have e3:ys=ys.take k++ys.drop k:=(List.take_append_drop k ys).symm;have h2:(flat (ys.take k)).length=k*sz:=by
   rw[dY (fun e he=>hs' e (List.mem_of_mem_take he)),List.length_take,Nat.min_eq_left (Nat.le_of_lt hk)]
  conv=>rhs;rw[e3,jt]
  rw[List.take_left' h2]
 ·rw[List.take_of_length_le hk,List.take_of_length_le];rw[dY hs'];exact Nat.mul_le_mul_right sz hk
section
variable {C:Cx}{g:Gh}{U:Nat->Option (List AV)}{h h':AH}{w:World}{tm:Tm}{tmps:Array Value}{v:AV}
theorem DH (s:Sim C g U h w)(ht:eQ g tm tmps){o:Oper}{t el:TypeId}{l c:Operand}{al ac:AX}{sz:Nat}{z:AV}{i:TypeInfo}(ho:o.op=.makeSlice t l c)(hel:rG C.T t=some el)
  (hsz:szT C.T el=some sz) (hz:jS C.T el=some z) (hi:C.T.get el=some i) (hl:cX l=some al) (hc:cX c=some ac) (hp:0<sz)
  (e:pJ (fq h (cn C.T el) sz i.bytes z.cells (ev al tm) (ev ac tm))=.val v h'):im C g U h ((execOp (gt tmps) o).run C.P w) v h':=by
 have e:=nX e;obtain⟨n,hn,e⟩:=ah e;obtain⟨m,hm,e⟩:=ah e;obtain⟨hcond,e⟩:=aH e;cases e;obtain⟨c1,c2⟩:=dd hcond;obtain⟨c2,c3⟩:=dd c2;have c1:=beq_eq c1;subst c1;have c2:n*i.bytes<=140737488355328:=eG c2;have rl:=bN ht hl;have rc:=bN ht hc;obtain⟨⟨k1,h1⟩,hle⟩:=mJ hn;obtain⟨⟨k2,h2⟩,_⟩:=mJ hm;rw[h1]at rl;rw[h2]at rc;obtain⟨d,hd,hel⟩:=ah hel;cases d<;>first|(cases hel;done)|skip
 case slice=>
 cases hel;obtain⟨i',zv,hi',hzv,hr,hlen,hcl,_⟩:=iM g hz;rw[hi]at hi';cases hi';obtain⟨i2,d2,hi2,hsz2,_⟩:=lY hsz;rw[hi]at hi2;cases hi2;have hzr:=hr.cells (lJ hcl);have hzlen:zv.cells.size=sz:=by have:=hzr.length;simp at this;omega
 have zr:=se hzr n;have hw:IntKind.i64.wrap (n:Int)=(n:Int):=lj _ (by omega) (by omega);have ht1:¬(281474976710656<(i.bytes:Int)*(n:Int)):=by
  have:(i.bytes:Int)*(n:Int)=((n*i.bytes:Nat):Int):=by rw[Int.natCast_mul,Int.mul_comm]
  rw[this];omega
 obtain⟨g',w',hw',ex,s',hv⟩:=sA (agg:=cn C.T el) s el hp n (Fv _) (us:=(Array.range (n*zv.cells.size)).map fun i=>zv.cells[i % zv.cells.size]!) (cs:=pI n z.cells)
  (by simp[hzlen]) (by rw[js];rw[hlen,hsz2];exact Fv _) (by rw[List.take_of_length_le (by rw[js];simp[hlen,hzlen,hsz2])];exact zr) (iT _ hcl n)
 refine⟨g',w',_,.inl ?_,ex,s',hv,Low.new _ _⟩;rw[hzlen]at hw';by_cases h0:n*sz=0
 ·have hn0:n=0:=by
   rcases Nat.mul_eq_zero.1 h0 with x|x
   ·exact x
   ·omega
  subst hn0;have r1:∀f:Nat->Value,(Array.range 0).map f=#[]:=fun f=>iA f rfl
  rw[Nat.zero_mul,r1]at hw';have hw0:IntKind.i64.wrap 0=0:=rfl;simp[execOp,ho,rl.int_inv,rc.int_inv,Instr.makeSlice,bh hd,asInt,asIntOf,iC hi,hw0,bU hsz,r1,hw']
 ·simp[execOp,ho,rl.int_inv,rc.int_inv,Instr.makeSlice,bh hd,asInt,asIntOf,iC hi,hw,bU hsz,h0,dt hi hzv,hzlen,hw'];exact fun q=>by
   exfalso;rcases q with(q|q)|q
   ·omega
   ·exact ht1 q
   ·omega
theorem oO (ht:eQ g tm tmps){x:Option Operand}{ax:Option AX}{d b n:Nat}(hx:nJ x=some ax)(e:wW ax tm d b=some n):
  (x=none/\n=d)∨(∃y k,x=some y/\gt tmps y=.int k (n:Int)/\n<=b):=by
 cases x with
 |none=>cases hx;cases e;exact .inl ⟨rfl,rfl⟩
 |some y=>
  obtain⟨a,ha,hx⟩:=ah (o:=cX y) hx;cases hx;have e:lX (ev a tm) b=some n:=e;obtain⟨⟨k,hk⟩,hle⟩:=mJ e;have r:=bN ht ha;rw[hk]at r;exact .inr ⟨y,k,rfl,r.int_inv,hle⟩
theorem nf {k:IntKind}{n b:Nat}{c:BoundsCode}(hn:n<=b):(Instr.sliceBound (.int k (n:Int)) b c).run C.P w=.ok n w:=by
 simp[Instr.sliceBound,asIntOf,hn]
theorem jw {b:Bool}{len cap l hb:Nat}{lo hi:Option Operand}(h1:(hi=none/\hb=len)∨(∃y k,hi=some y/\gt tmps y=.int k (hb:Int)/\hb<=cap))
  (h2:(lo=none/\l=0)∨(∃y k,lo=some y/\gt tmps y=.int k (l:Int)/\l<=hb)) :
  (Instr.sliceBounds b len cap (lo.map (gt tmps)) (hi.map (gt tmps)) none).run C.P w=.ok (l,hb,cap) w:=by
 unfold Instr.sliceBounds;rcases h1 with⟨rfl,rfl⟩|⟨y,k,rfl,hy,hle⟩<;>rcases h2 with⟨rfl,rfl⟩|⟨z,k',rfl,hz,hle'⟩<;>
  simp_all [nf]
theorem mM {len cap l hb:Nat}{lo:Option Operand}{hi mx:Operand}{k k2:IntKind}(h1:gt tmps hi=.int k (hb:Int))(h3:gt tmps mx=.int k2 (hb:Int))(hc:hb<=cap)
  (h2:(lo=none/\l=0)∨(∃y k,lo=some y/\gt tmps y=.int k (l:Int)/\l<=hb)) :
  (Instr.sliceBounds true len cap (lo.map (gt tmps)) (some (gt tmps hi)) (some (gt tmps mx))).run C.P w=.ok (l,hb,hb) w:=by
 unfold Instr.sliceBounds;rcases h2 with⟨rfl,rfl⟩|⟨z,k',rfl,hz,hle'⟩<;>simp_all [nf]
end
