/- AbsGo: one operation of the evaluator's is one of the model's: elements, arithmetic, functions (no condition). -/
import Derived.Test.YtocdlbblemjabaaGreatDoorAe
import Derived.Laws.Strings
namespace Go.AG
theorem nS:∀ {es:List AV} {sz n:Nat} {v:AV},(∀ e∈es,e.cells.length=sz)->es[n]?=some v->((flat es).drop (n*sz)).take sz=v.cells/\n*sz+sz<=(flat es).length
 |[],sz,n,v,_,h=>by simp at h
 |e::es,sz,0,v,hs,h=>by
  simp at h;subst h;have:=hs e (.head _);rw[cw,Nat.zero_mul,List.drop_zero];refine⟨by rw[<- this,List.take_left' rfl],by rw[List.length_append];omega⟩
 |e::es,sz,n+1,v,hs,h=>by
  have he:=hs e (.head _);obtain⟨h1,h2⟩:=nS (n:=n) (fun x hx=>hs x (.tail _ hx)) (by simpa using h);rw[cw];refine⟨?_,by rw[List.length_append,Nat.succ_mul];omega⟩;rw[<- h1,Nat.succ_mul,Nat.add_comm (n*sz) sz,<- List.drop_drop,List.drop_left' he]
theorem dJ {sz:Nat}: ∀ {es:List AV},(∀ e∈es,e.cells.length=sz)->(flat es).length=es.length*sz
 |[],_=>by simp[oQ]
 |e::es,hs=>by
  rw[cw,List.length_append,hs e (.head _),dJ (fun x hx=>hs x (.tail _ hx)),List.length_cons,Nat.succ_mul,Nat.add_comm]
theorem zP {es:List AV}(h:aR (flat es)=true):∀ e∈es,aR e.cells=true:=by
 induction es with
 |nil=>intro e he;simp at he
 |cons x es ih=>
  rw[cw,eJ,Bool.and_eq_true]at h;intro e he;cases he with
  |head=>exact h.1
  |tail _ he=>exact ih h.2 e he
section
variable {C:Cx}{g:Gh}{U:Nat->Option (List AV)}{h h':AH}{w:World}{tm:Tm}{tmps:Array Value}{v:AV}
theorem qF {x:AV}{b n:Nat}(e:asIdx x b=some n):(∃ k,x=.int k (n:Int))/\n<b:=by
 obtain⟨m,hm,e⟩:=aA e;obtain⟨hc,e⟩:=aN e;cases e;exact⟨oZ hm,iF hc⟩
theorem nw {x:AV}{b n:Nat}(e:lB x b=some n):(∃ k,x=.int k (n:Int))/\n<=b:=by
 obtain⟨m,hm,e⟩:=aA e;obtain⟨hc,e⟩:=aN e;cases e;exact⟨oZ hm,eE hc⟩
theorem kR {t el:TypeId}{sz:Nat}(hd:und C.T t=some (.slice el))(hn:szT C.T el=some sz){b off len cap i:Nat}{k:IntKind}(hi:i<len):
  (Instr.indexAt t (.slice (some ⟨b,off,none⟩) len cap) (.int k (i:Int))).run C.P w=.ok (.pointer (some ⟨b,off+i*sz,none⟩)) w:=by
 simp[Instr.indexAt,asIntOf,bj hd,hi,bY hn,iM]
theorem UM {es:List AV}{sz:Nat}{i:AV}(e:TI es sz i=some v):∃ (k:IntKind) (n:Nat) (x:AV),i=.int k (n:Int)/\es[n]?=some x/\x.cells.length=sz/\v=.vptr x:=by
 obtain⟨n,hn,e⟩:=aA e;obtain⟨x,hx,e⟩:=aA e;obtain⟨hc,e⟩:=aN e;cases e;obtain⟨k,hk⟩:=oZ hn;have hc:=beq_eq hc;rw[bH]at hc;rw[ie]at hx;exact⟨k,n,x,hk,hx,hc,rfl⟩
theorem getElem?_lt {α:Type}{l:List α}{n:Nat}{x:α}(h:l[n]?=some x):n<l.length:=by
 rcases Nat.lt_or_ge n l.length with q|q
 ·exact q
 ·rw[List.getElem?_eq_none q]at h;cases h
theorem Vc (s:Sim C g U h w)(ht:ep g tm tmps){o:Oper}{t el:TypeId}{x i:Operand}{ax ai:AX}{sz:Nat}(ho:o.op=.indexAddr t x i)(hd:und C.T t=some (.slice el))(hn:szT C.T el=some sz)
  (hx:cX x=some ax) (hi:cX i=some ai) (e:cz (ev ax tm) h sz (ev ai tm)=.val v h'):gG C g U h ((execOp (alc tmps) o).run C.P w) v h':=by
 have rx:=bQ ht hx;have ri:=bQ ht hi;have fin:∀ (es:List AV) (a:Option Addr) (cap:Nat),alc tmps x=.slice a es.length cap->
   (es=[]∨∃ sz b off,a=some ⟨b,off,none⟩/\(∀ e∈es,e.cells.length=sz)/\aR (flat es)=true/\eu g b off (flat es))->
   okV (TI es sz (ev ai tm)) h=.val v h'->gG C g U h ((execOp (alc tmps) o).run C.P w) v h':=by
  intro es a cap hu hcase e;obtain⟨e',rfl⟩:=dx e;clear e;obtain⟨k,n,y,hk,hy,hsz,rfl⟩:=UM e';rw[hk]at ri;rcases hcase with rfl|⟨sz',b,off,rfl,hs,ha,hr⟩
  ·simp at hy
  ·have:sz'=sz:=by rw[<- hsz];exact(hs y (m_ hy)).symm
   subst this;obtain⟨f1,f2⟩:=nS hs hy;refine bc (u:=.pointer (some ⟨b,off+n*sz',none⟩)) s ?_ (.vptr (zP ha y (m_ hy)) ?_)
   ·simp only[execOp,ho,hu,ri.int_inv,Sem.run_bind,kR hd hn (getElem?_lt hy),Result.andThen_ok,Sem.run_pure]
   ·rw[<- f1];exact hr.sub (n*sz') sz' o_
 generalize ev ax tm=a at rx e;cases a<;>first|(cases e;done)|skip
 case ls es=>
  obtain⟨a,cap,hu,_,hcase⟩:=rx.lst_inv;exact fin es a cap hu hcase e
 case clip es=>
  obtain⟨a,hu,hcase⟩:=rx.clip_inv;exact fin es a _ hu hcase e
 case row k n sz' off m=>
  obtain⟨e',rfl⟩:=dx e;clear e;obtain⟨hc,e'⟩:=aN e';obtain⟨j,hj,e'⟩:=aA e';cases e';have hc:=beq_eq hc;obtain⟨⟨kk,hk⟩,hlt⟩:=qF hj;rw[hk]at ri;obtain⟨l,a,hl,hs,hle,hu,ha⟩:=rx.row_inv;rcases ha with rfl|⟨rfl,_⟩
  ·refine bc s (u:=.pointer (some ⟨l.block,l.base+(off+j)*sz,none⟩)) ?_ (.ptr hl);simp only[execOp,ho,hu,ri.int_inv,Sem.run_bind,kR hd hn hlt,Result.andThen_ok,Sem.run_pure];rw[hc,Nat.add_mul,Nat.add_assoc]
  ·omega
theorem RH (s:Sim C g U h w)(ht:ep g tm tmps){o:Oper}{t el:TypeId}{x i:Operand}{ax ai:AX}{len sz:Nat}(ho:o.op=.indexAddr t x i)(hd:und C.T t=some (.array len el))(hn:szT C.T el=some sz)
  (hx:cX x=some ax) (hi:cX i=some ai) (e:Option.casesOn (asIdx (ev ai tm) len) .bad (fun n=>fV (ev ax tm) h n sz (cm C.T el))=OpR.val v h') :
  gG C g U h ((execOp (alc tmps) o).run C.P w) v h':=by
 have rx:=bQ ht hx;have ri:=bQ ht hi;cases hj:asIdx (ev ai tm) len with
 |none=>rw[hj]at e;cases e
 |some n=>
  rw[hj]at e;have e:fV (ev ax tm) h n sz (cm C.T el)=.val v h':=e;obtain⟨⟨kk,hk⟩,hlt⟩:=qF hj;rw[hk]at ri;have run:∀ b off,alc tmps x=.pointer (some ⟨b,off,none⟩)->(execOp (alc tmps) o).run C.P w=.ok (.value (.pointer (some ⟨b,off+n*sz,none⟩))) w:=by
   intro b off hu;simp[execOp,ho,hu,ri.int_inv,Instr.indexAt,asIntOf,Instr.sureAddr,bj hd,hlt,bY hn,iM]
  generalize ev ax tm=a at rx e;cases a<;>first|(cases e;done)|skip
  case ptr k m off=>
   cases e;obtain⟨l,hl,hu⟩:=rx.ptr_inv;refine bc s (run _ _ hu) ?_;rw[Nat.add_assoc];exact .ptr hl
  case vptr a=>
   obtain⟨e',rfl⟩:=dx e;clear e;obtain⟨cs,hcs,e'⟩:=aA e';obtain⟨y,hy,e'⟩:=aA e';cases e';obtain⟨b,off,ha,hr,hu⟩:=rx.vptr_inv;rw[jY hcs]at ha hr;have ha:aR cs=true:=ha;have hr:eu g b off cs:=hr;obtain⟨g1,g2,g3,g4,g5,_⟩:=wH hy ha;refine bc s (run _ _ hu) (.vptr g5 ?_);rw[g1];exact hr.sub (n*sz) sz (by have:Nat.mul n sz=n*sz:=rfl;omega)
theorem Rx (s:Sim C g U h w)(ht:ep g tm tmps){o:Oper}{t:TypeId}{x i:Operand}{ax ai:AX}(ho:o.op=.index t x i)(hd:und C.T t=some .string)
  (hx:cX x=some ax) (hi:cX i=some ai) (e:okV (mH (ev ax tm) (ev ai tm)) h=.val v h'):gG C g U h ((execOp (alc tmps) o).run C.P w) v h':=by
 obtain⟨e',rfl⟩:=dx e;clear e;obtain⟨sv,hs,e'⟩:=aA e';obtain⟨n,hn,e'⟩:=aA e';obtain⟨b,hb,e'⟩:=aA e';cases e';rw[ie]at hb;have rx:=bQ ht hx;have ri:=bQ ht hi;rw[kh hs]at rx;obtain⟨k,hk⟩:=oZ hn;rw[hk]at ri;have hb':sv[n]?=some b:=by
  have hlt:=getElem?_lt hb;have hsz:n<sv.size:=by
   show n<sv.data.size;rw[<- Array.length_toList];exact hlt
  rw[getElem?_pos sv n hsz];rw[a_ hlt]at hb;cases hb;rfl
 refine bc s ?_ (.int _ _);simp[execOp,ho,rx.str_inv,ri.int_inv,Instr.index,asIntOf,bj hd,hb']
theorem RN (s:Sim C g U h w)(ht:ep g tm tmps){o:Oper}{t el:TypeId}{x i:Operand}{ax ai:AX}{len sz:Nat}(ho:o.op=.index t x i)(hd:und C.T t=some (.array len el))(hn:szT C.T el=some sz)
  (hx:cX x=some ax) (hi:cX i=some ai) (e:okV (rS len sz (cm C.T el) (ev ax tm) (ev ai tm)) h=.val v h'):gG C g U h ((execOp (alc tmps) o).run C.P w) v h':=by
 obtain⟨e',rfl⟩:=dx e;clear e;obtain⟨cs,hcs,e'⟩:=aA e';obtain⟨n,hj,e'⟩:=aA e';have rx:=bQ ht hx;have ri:=bQ ht hi;obtain⟨⟨kk,hk⟩,hlt⟩:=qF hj;rw[hk]at ri;rw[jY hcs]at rx;obtain⟨us,ha,hv,hu⟩:=rx.agg_inv;obtain⟨y,hy,hr⟩:=Ek (w:=w) hn hv ha e';refine bc s ?_ hr;have hy:(part el ⟨us⟩ (n*sz)).run C.P w=.ok y w:=hy;simp[execOp,ho,hu,ri.int_inv,Instr.index,asIntOf,bj hd,hlt,bY hn,hy]
theorem lX (a b:Int):Dq a b=(a==b):=by
 cases a with
 |ofNat m=>cases b with
  |ofNat n=>
   show Nat.beq m n=_;by_cases h:m=n
   ·subst h;simp
   ·rw[Dn h];symm;simp;omega
  |negSucc n=>rfl
 |negSucc m=>cases b with
  |ofNat n=>rfl
  |negSucc n=>
   show Nat.beq m n=_;by_cases h:m=n
   ·subst h;simp
   ·rw[Dn h];symm;simp;omega
theorem rA (a b:Int):leI a b=decide (a<=b):=by
 have key:∀ m n:Nat,Nat.ble m n=decide (m<=n):=fun m n=>by
  cases h:Nat.ble m n with
  |true=>simp[eE h]
  |false=>have:=pj h;simp;omega
 cases a with
 |ofNat m=>cases b with
  |ofNat n=>
   show Nat.ble m n=_;rw[key];congr 1;simp
  |negSucc n=>
   show false=_;symm;simp only[decide_eq_false_iff_not];have:Int.ofNat m=(m:Int):=rfl;omega
 |negSucc m=>cases b with
  |ofNat n=>
   show true=_;symm;simp only[decide_eq_true_eq];have:Int.ofNat n=(n:Int):=rfl;omega
  |negSucc n=>
   show Nat.ble n m=_;rw[key];congr 1;simp only[eq_iff_iff];omega
theorem Pj {a b:IntKind}(h:TZ a b=true):a=b:=by cases a<;>cases b<;>first|rfl|(cases h)
theorem yZ (a:IntKind):TZ a a=true:=by cases a<;>rfl
theorem lC (n:Int)(h1 : -(2 ^ 63)<=n)(h2:n<2 ^ 63):IntKind.i64.wrap n=n:=by
 have e1:(2 ^ IntKind.i64.bits:Int)=18446744073709551616:=rfl;have e2:(2 ^ (IntKind.i64.bits-1):Int)=9223372036854775808:=rfl;have e3:IntKind.i64.signed=true:=rfl;unfold IntKind.wrap;simp only[e1,e2,e3,Bool.true_and,decide_eq_true_eq,ge_iff_le];split<;>omega
theorem jt (k:IntKind)(n:Int):sO k n=.int k (k.wrap n):=by
 unfold sO;cases hk:Nat.beq (TK k) 3 with
 |false=>rfl
 |true=>
  have:k=.i64:=by cases k<;>first|rfl|(cases hk)
  subst this;show WV n=_;cases n with
  |ofNat m=>
   show cond (Nat.blt m 9223372036854775808) _ _=_;cases hm:Nat.blt m 9223372036854775808 with
   |false=>rfl
   |true=>
    have:=iF hm;show AV.int .i64 (Int.ofNat m)=_;rw[lC (Int.ofNat m) (by simp only[Int.ofNat_eq_natCast];omega) (by simp only[Int.ofNat_eq_natCast];omega)]
  |negSucc m=>
   show cond (Nat.blt m 9223372036854775808) _ _=_;cases hm:Nat.blt m 9223372036854775808 with
   |false=>rfl
   |true=>
    have:=iF hm;show AV.int .i64 (Int.negSucc m)=_;rw[lC (Int.negSucc m) o_ o_]
end
theorem sM:∀ a b:List UInt8,adP a b=(a==b)
 |[],[]=>rfl
 |[],_::_=>rfl
 |_::_,[]=>rfl
 |x::a,y::b=>by
  show and (Nat.beq x.toNat y.toNat) (adP a b)=_;rw[sM a b];by_cases h:x=y
  ·subst h;simp
  ·have:x.toNat≠y.toNat:=fun q=>h (UInt8.toNat_inj.1 q)
   rw[Dn this];have h2:(x==y)=false:=by simpa using h
   simp[h2]
theorem sL (a b:ByteArray):Dp a b=(a.toList==b.toList):=by
 rw[ByteArray.toList_eq,ByteArray.toList_eq];exact sM _ _
theorem lu (a b:ByteArray):Dp a b=(a==b):=by
 have e:(a==b)=(a.data==b.data):=rfl;unfold Dp;rw[sM,e];by_cases h:a.data=b.data
 ·rw[h];simp
 ·have:¬ a.data.toList=b.data.toList:=fun q=>h (Array.ext' q)
  have h2:(a.data==b.data)=false:=by simpa using h
  rw[h2];simpa using this
theorem rO (a b:ByteArray):Hl a b=Op.bytesLess a.toList b.toList:=by
 rw[ByteArray.toList_eq,ByteArray.toList_eq];rfl
section
variable {C:Cx}{g:Gh}{U:Nat->Option (List AV)}{h h':AH}{w:World}{tm:Tm}{tmps:Array Value}{v:AV}
theorem vN (a b:Int):(!(leI b a))=decide (a<b):=by
 rw[rA];by_cases h:b<=a
 ·simp[h]
 ·simp[h];omega
theorem abT {op:BinOp}{k:IntKind}{a b:Int}{t:TypeId}(e:pA op k a b=some v){k':IntKind}(hk:pP op=true∨k'=k):
  ∃ u,(binOp op t (.int k a) (.int k' b)).run C.P w=.ok u w/\bA g v u:=by
 cases op
 case shl=>
  obtain⟨m,hm,e⟩:=aA (o:=adL b) e;cases e;cases b with
  |ofNat m'=>
   cases hm;refine⟨_,?_,.int _ _⟩;have:¬ ((m:Int)<0):=o_;simp[binOp,Op.shift,this]
  |negSucc m'=>cases hm
 case shr=>
  obtain⟨m,hm,e⟩:=aA (o:=adL b) e;cases e;cases b with
  |ofNat m'=>
   cases hm;refine⟨_,?_,.int _ _⟩;have:¬ ((m:Int)<0):=o_;simp[binOp,Op.shift,this]
  |negSucc m'=>cases hm
 all_goals
  have hk:k'=k:=by rcases hk with x|x<;>first|exact x|(cases x)
  subst hk
 case quo=>
  obtain⟨hc,e⟩:=fO (c:=Dq b 0) e;rw[lX]at hc;have hb:¬ b=0:=by simpa using hc
  cases e;rw[jt];exact⟨_,by first|(simp[binOp,Op.intDiv,hb];done)|(simp[binOp,Op.intDiv,hb];rfl),.int _ _⟩
 case rem=>
  obtain⟨hc,e⟩:=fO (c:=Dq b 0) e;rw[lX]at hc;have hb:¬ b=0:=by simpa using hc
  cases e;exact⟨_,by first|(simp[binOp,Op.intDiv,hb];done)|(simp[binOp,Op.intDiv,hb];rfl),.int _ _⟩
 all_goals cases e
 case add=>rw[jt];exact⟨_,by first|(simp[binOp,Op.intArith];done)|(simp[binOp,Op.intArith];rfl),.int _ _⟩
 case sub=>rw[jt];exact⟨_,by first|(simp[binOp,Op.intArith];done)|(simp[binOp,Op.intArith];rfl),.int _ _⟩
 case mul=>rw[jt];exact⟨_,by first|(simp[binOp,Op.intArith];done)|(simp[binOp,Op.intArith];rfl),.int _ _⟩
 case eql=>rw[lX];exact⟨_,by simp[binOp,Op.intCmp],.bool _⟩
 case neq=>rw[lX];exact⟨.bool (a != b),by simp[binOp,Op.intCmp],.bool _⟩
 case lss=>rw[vN];exact⟨_,by simp[binOp,Op.intCmp],.bool _⟩
 case leq=>rw[rA];exact⟨_,by simp[binOp,Op.intCmp],.bool _⟩
 case gtr=>rw[vN];exact⟨_,by simp[binOp,Op.intCmp],.bool _⟩
 case geq=>rw[rA];exact⟨_,by simp[binOp,Op.intCmp],.bool _⟩
 case and=>exact⟨_,by first|(simp[binOp,Op.intBits];done)|(simp[binOp,Op.intBits];rfl),.int _ _⟩
 case or=>exact⟨_,by first|(simp[binOp,Op.intBits];done)|(simp[binOp,Op.intBits];rfl),.int _ _⟩
 case xor=>exact⟨_,by first|(simp[binOp,Op.intBits];done)|(simp[binOp,Op.intBits];rfl),.int _ _⟩
 case andNot=>exact⟨_,by first|(simp[binOp,Op.intBits];done)|(simp[binOp,Op.intBits];rfl),.int _ _⟩
theorem abS {op:BinOp}{a b:ByteArray}{t:TypeId}(e:CG op a b=some v):
  ∃ u,(binOp op t (.string a) (.string b)).run C.P w=.ok u w/\bA g v u:=by
 cases op<;>first|(cases e;done)|skip
 case add=>
  obtain⟨hc,e⟩:=fO (c:=Nat.blt 9223372036854775807 (Nat.add a.size b.size)) e;have hc:=SN hc;have hc:a.size+b.size<=9223372036854775807:=hc;cases e;have hm:IntKind.i64.max=9223372036854775807:=rfl;have:¬ (((a.size+b.size:Nat):Int) > IntKind.i64.max):=by rw[hm];omega
  exact⟨_,by simp only[binOp,Op.stringOp,this,if_false,Sem.run_pure],.str _⟩
 all_goals cases e
 case eql=>rw[sL];exact⟨_,by simp[binOp,Op.stringOp],.bool _⟩
 case neq=>rw[sL];exact⟨_,by simp[binOp,Op.stringOp],.bool _⟩
 case lss=>rw[rO];exact⟨_,by simp[binOp,Op.stringOp],.bool _⟩
 case leq=>rw[rO,sL];exact⟨_,by simp[binOp,Op.stringOp],.bool _⟩
 case gtr=>rw[rO,sL];exact⟨_,by simp[binOp,Op.stringOp],.bool _⟩
 case geq=>rw[rO];exact⟨_,by simp[binOp,Op.stringOp],.bool _⟩
end
section
variable {C:Cx}{g:Gh}{U:Nat->Option (List AV)}{h h':AH}{w:World}{tm:Tm}{tmps:Array Value}{v:AV}
theorem samePl_cases {t:Nat}{a b:AV}{r:Bool}(e:eM t a b=some r):
  (t=1/\∃ k m n,a=.int k m/\b=.int k n/\r=(m==n))∨(t=2/\∃ x y,a=.str x/\b=.str y/\r=Dp x y)∨(t≠1/\t≠2/\∃ x y,a=.bool x/\b=.bool y/\r=(x==y)):=by
 unfold eM at e;cases h1:Nat.beq t 1 with
 |true=>
  rw[h1]at e;obtain⟨p,hp,e⟩:=aA (o:=zX a) e;obtain⟨q,hq,e⟩:=aA e;obtain⟨hc,e⟩:=aN e;cases e;have:=Pj hc;obtain⟨pk,pn⟩:=p;obtain⟨qk,qn⟩:=q;simp only at this;subst this;exact .inl ⟨beq_eq h1,pk,pn,qn,gY hp,gY hq,lX _ _⟩
 |false=>
  have n1:t≠1:=fun q=>by rw[q]at h1;cases h1
  rw[h1]at e;simp only[cond_false]at e;cases h2:Nat.beq t 2 with
  |true=>
   rw[h2]at e;obtain⟨p,hp,e⟩:=aA (o:=zf a) e;obtain⟨q,hq,e⟩:=aA e;cases e;exact .inr (.inl ⟨beq_eq h2,p,q,kh hp,kh hq,rfl⟩)
  |false=>
   have n2:t≠2:=fun q=>by rw[q]at h2;cases h2
   rw[h2]at e;obtain⟨p,hp,e⟩:=aA (o:=CW a) e;obtain⟨q,hq,e⟩:=aA e;cases e;exact .inr (.inr ⟨n1,n2,p,q,qy hp,qy hq,yq _ _⟩)
theorem tagD_ok {d:TypeDesc}{n:Nat}(e:Hw d=some n):(n=0/\d=.bool)∨(n=1/\∃ k,d=.int k)∨(n=2/\d=.string):=by
 cases d<;>first|(cases e;done)|skip
 case bool=>cases e;exact .inl ⟨rfl,rfl⟩
 case int k=>cases e;exact .inr (.inl ⟨rfl,k,rfl⟩)
 case string=>cases e;exact .inr (.inr ⟨rfl,rfl⟩)
theorem kT {t:TypeId}{d:TypeDesc}{n:Nat}{a b:AV}{x y:Value}{r:Bool}(hd:und C.T t=some d)(hn:Hw d=some n)(ha:bA g a x)(hb:bA g b y)
  (e:eM n a b=some r) (depth:Nat):(Op.equalIn (depth+1) t x y).run C.P w=.ok r w:=by
 rcases samePl_cases e with⟨rfl,k,m,m',rfl,rfl,rfl⟩|⟨rfl,s,s',rfl,rfl,rfl⟩|⟨n1,n2,p,q,rfl,rfl,rfl⟩
 ·rcases tagD_ok hn with⟨h0,_⟩|⟨_,k',rfl⟩|⟨h0,_⟩
  ·omega
  ·rw[ha.int_inv,hb.int_inv];simp[Op.equalIn,bj hd]
  ·omega
 ·rcases tagD_ok hn with⟨h0,_⟩|⟨h0,_⟩|⟨_,rfl⟩
  ·omega
  ·omega
  ·rw[ha.str_inv,hb.str_inv,lu];simp[Op.equalIn,bj hd]
 ·rcases tagD_ok hn with⟨_,rfl⟩|⟨h0,_⟩|⟨h0,_⟩
  ·rw[ha.bool_inv,hb.bool_inv];simp[Op.equalIn,bj hd]
  ·omega
  ·omega
theorem eqNil_some {a b:Nat}{r:Bool}(e:sT a b=some r):(a=0/\b=0/\r=true)∨(a=0/\b=1/\r=false)∨(a=1/\b=0/\r=false):=by
 unfold sT at e;cases h1:Nat.beq (Nat.add a b) 0 with
 |true=>
  rw[h1]at e;cases e;have:=beq_eq h1;have:a+b=0:=this;exact .inl ⟨o_,o_,rfl⟩
 |false=>
  rw[h1]at e;obtain⟨h2,e⟩:=aN (c:=Nat.beq (Nat.add a b) 1) e;cases e;have:=beq_eq h2;have:a+b=1:=this;rcases Nat.eq_zero_or_pos a with x|x
  ·exact .inr (.inl ⟨x,o_,rfl⟩)
  ·exact .inr (.inr ⟨o_,o_,rfl⟩)
theorem pV {a:AV}{x:Value}(hv:bA g a x)(e:ZN a=0):x=.pointer none:=by cases a<;>first|(cases e;done)|exact hv.nilp_inv
theorem BB {a:AV}{x:Value}(hv:bA g a x)(e:ZN a=1):∃ p,x=.pointer (some p):=by
 cases a<;>first|(cases e;done)|skip
 case ptr=>obtain⟨l,_,h⟩:=hv.ptr_inv;exact⟨_,h⟩
 case vptr=>obtain⟨b,off,_,_,h⟩:=hv.vptr_inv;exact⟨_,h⟩
theorem uh {a:AV}{x:Value}(hv:bA g a x)(e:ZO a=0):x=.map none:=by cases a<;>first|(cases e;done)|exact hv.nilm_inv
theorem Ih {a:AV}{x:Value}(hv:bA g a x)(e:ZO a=1):∃ p,x=.map (some p):=by
 cases a<;>first|(cases e;done)|skip
 case map=>obtain⟨l,_,h⟩:=hv.map_inv;exact⟨_,h⟩
theorem uj {a:AV}{x:Value}(hv:bA g a x)(e:ZP a=0):x=.nilFunc:=by cases a<;>first|(cases e;done)|exact hv.nilf_inv
theorem Ii {a:AV}{x:Value}(hv:bA g a x)(e:ZP a=1):∃ f p q,x=.func f p q:=by
 cases a<;>first|(cases e;done)|skip
 case fn=>obtain⟨x',y',_,_,h⟩:=hv.fn_inv;exact⟨_,_,_,h⟩
theorem ui {a:AV}{x:Value}(hv:bA g a x)(e:Fy a=0):x=.nilIface:=by cases a<;>first|(cases e;done)|exact hv.nili_inv
theorem xN {a:AV}{x:Value}(hv:bA g a x)(e:Fy a=1):∃ t p,x=.iface t p:=by
 cases a<;>first|(cases e;done)|skip
 case ifc=>obtain⟨x',_,h⟩:=hv.ifc_inv;exact⟨_,_,h⟩
theorem BA {a:AV}{x:Value}(hv:bA g a x)(e:adI a=0):x=.slice none 0 0:=by
 cases a<;>first|(cases e;done)|skip
 case nl=>exact hv.nils_inv
 case ls es=>cases es<;>cases e
 case clip es=>cases es<;>cases e
 case row k n sz off m=>cases m<;>cases e
theorem YM {a:AV}{x:Value}(hv:bA g a x)(e:adI a=1):∃ p m c,x=.slice (some p) m c:=by
 cases a<;>first|(cases e;done)|skip
 case ls es=>
  cases es with
  |nil=>cases e
  |cons y es=>
   obtain⟨a,cap,h,_,hc⟩:=hv.lst_inv;rcases hc with hc|⟨sz,b,off,rfl,_⟩
   ·cases hc
   ·exact⟨_,_,_,h⟩
 case clip es=>
  cases es with
  |nil=>cases e
  |cons y es=>
   obtain⟨a,h,hc⟩:=hv.clip_inv;rcases hc with hc|⟨sz,b,off,rfl,_⟩
   ·cases hc
   ·exact⟨_,_,_,h⟩
 case row k n sz off m=>
  cases m with
  |zero=>cases e
  |succ m=>
   obtain⟨l,a,_,_,_,h,hc⟩:=hv.row_inv;rcases hc with rfl|⟨hc,_⟩
   ·exact⟨_,_,_,h⟩
   ·omega
theorem xw {us ys:List Value}{as bs:List AV}(hu:aY g as us)(hy:aY g bs ys)(depth:Nat):
  ∀ (fs:List Field) (l:List (Nat×Nat)) (r:Bool),hX (eT C.T) fs=some l->pQ l as bs=some r->
   (forIn (m:=Sem) fs ((none,()):Option Bool×Unit) fun f _=>
    if f.name≠ "_" then do
     let a <- part f.type ⟨us⟩ f.offset
     let b <- part f.type ⟨ys⟩ f.offset
     let c <- Op.equalIn (depth+1) f.type a b
     if (!c)=true then pure (ForInStep.done (some false,())) else pure (ForInStep.yield (none,()))
    else pure (ForInStep.yield (none,()))).run C.P w=.ok (if r then (none,()) else (some false,())) w:=by
 intro fs;induction fs with
 |nil=>intro l r e1 e2;cases e1;cases e2;simp
 |cons f fs ih=>
  intro l r e1 e2;obtain⟨p,l',hp,hl,rfl⟩:=bS e1;unfold eT at hp;split at hp
  ·cases hp
  ·rename_i hname;obtain⟨d,hd,hp⟩:=aA hp;obtain⟨n,hn,hp⟩:=aA hp;obtain⟨sz,hsz,hp⟩:=aA hp;cases hp;have e2:aD (pT f.offset as) (fun x=>aD (pT f.offset bs) fun y=>aD (eM n x y) fun s=>cond s (pQ l' as bs) (some false))=some r:=e2;obtain⟨x,hx,e2⟩:=aA e2;obtain⟨y,hy',e2⟩:=aA e2;obtain⟨b,hb',e2⟩:=aA e2;rw[ie]at hx hy';obtain⟨xu,hxu,rx⟩:=hu.get hx;obtain⟨yu,hyu,ry⟩:=hy.get hy';have hag:cm C.T f.type=false:=by
    unfold cm;rw[hd];rcases tagD_ok hn with⟨_,rfl⟩|⟨_,k,rfl⟩|⟨_,rfl⟩<;>rfl
   have p1:(part f.type ⟨us⟩ f.offset).run C.P w=.ok xu w:=by
    simp[part,jH hd,hag,hxu]
   have p2:(part f.type ⟨ys⟩ f.offset).run C.P w=.ok yu w:=by
    simp[part,jH hd,hag,hyu]
   have heq:=kT (w:=w) hd hn rx ry hb' depth;rw[List.forIn_cons];simp only[ne_eq,hname,not_false_eq_true,if_true,Sem.run_bind,p1,p2,heq,Result.andThen_ok];cases b with
   |false=>
    cases e2;simp
   |true=>
    have e2:pQ l' as bs=some r:=e2;simp only[Bool.not_true,Bool.false_eq_true,if_false,Sem.run_pure,Result.andThen_ok];exact ih l' r hl e2
end
section
variable {C:Cx}{g:Gh}{U:Nat->Option (List AV)}{h h':AH}{w:World}{tm:Tm}{tmps:Array Value}{v:AV}
theorem lR {t:TypeId}{fs:Array Field}{l:List (Nat×Nat)}{as bs:List AV}{us ys:List Value}{r:Bool}(hd:und C.T t=some (.struct fs))(hs:C.P.stoodInHeld t=false)
  (hl:hX (eT C.T) fs.toList=some l) (hu:aY g as us) (hy:aY g bs ys) (e:pQ l as bs=some r):(Op.equal t (.agg ⟨us⟩) (.agg ⟨ys⟩)).run C.P w=.ok r w:=by
 have key:=xw (C:=C) (w:=w) hu hy 9998 fs.toList l r hl e;show(Op.equalIn (9999+1) t _ _).run C.P w=_;unfold Op.equalIn;simp only[Sem.run_bind,bj hd,Result.andThen_ok,run_program,hs,Bool.false_eq_true,if_false,<- Array.forIn_toList];rw[key];cases r<;>rfl
theorem yv {t:TypeId}{c:Bool}{k:EqK}{a b:AV}{x y:Value}{r:Bool}(hk:eqK C.P C.T t c=some k)(ha:bA g a x)(hb:bA g b y)(e:adM k a b=some r):
  (Op.equal t x y).run C.P w=.ok r w/\((x=.nilIface/\y=.nilIface)->c=true)/\((∃ p q,x=.agg p/\y=.agg q)->C.P.eqGuardType C.P.depth t=false):=by
 obtain⟨d,hd,hk⟩:=aA hk;show(Op.equalIn (9999+1) t x y).run C.P w=_/\_;cases d<;>first|(cases hk;done)|skip
 case bool=>
  cases hk;have e:eM 0 a b=some r:=e;refine⟨kT hd rfl ha hb e 9999,?_,?_⟩
  all_goals
   rcases samePl_cases e with⟨h0,_⟩|⟨h0,_⟩|⟨_,_,p,q,rfl,rfl,_⟩
   ·omega
   ·omega
   ·rw[ha.bool_inv,hb.bool_inv];rintro⟨h1,h2⟩;first|(cases h1;done)|(obtain⟨_,h1,_⟩:=h2;cases h1)
 case int=>cases hk;cases e
 case string=>cases hk;cases e
 case pointer el=>
  generalize 9999=dep;obtain⟨n,hn,hk⟩:=aA (o:=szT C.T el) hk;obtain⟨hc,hk⟩:=fO hk;cases hk;have e:sT (ZN a) (ZN b)=some r:=e;have ex:∃ p q,x=.pointer p/\y=.pointer q:=by
   rcases eqNil_some e with⟨h1,h2,_⟩|⟨h1,h2,_⟩|⟨h1,h2,_⟩
   ·exact⟨_,_,pV ha h1,pV hb h2⟩
   ·obtain⟨q,hq⟩:=BB hb h2;exact⟨_,_,pV ha h1,hq⟩
   ·obtain⟨q,hq⟩:=BB ha h1;exact⟨_,_,hq,pV hb h2⟩
  refine⟨?_,?_,?_⟩
  ·rcases eqNil_some e with⟨h1,h2,rfl⟩|⟨h1,h2,rfl⟩|⟨h1,h2,rfl⟩
   ·rw[pV ha h1,pV hb h2];simp[Op.equalIn,bj hd]
   ·obtain⟨q,hq⟩:=BB hb h2;rw[pV ha h1,hq];simp[Op.equalIn,bj hd]
   ·obtain⟨q,hq⟩:=BB ha h1;rw[hq,pV hb h2];simp[Op.equalIn,bj hd]
  ·obtain⟨p,q,rfl,rfl⟩:=ex;rintro⟨h1,_⟩;cases h1
  ·obtain⟨p,q,rfl,rfl⟩:=ex;rintro⟨p',q',h1,_⟩;cases h1
 case slice el=>
  generalize 9999=dep;cases hk;obtain⟨hc,e⟩:=aN (c:=Nat.beq (adI b) 0) e;have hc:=beq_eq hc;have ex:∃ p m c',x=.slice p m c':=by
   rcases eqNil_some e with⟨h1,_,_⟩|⟨_,h2,_⟩|⟨h1,_,_⟩
   ·exact⟨_,_,_,BA ha h1⟩
   ·omega
   ·obtain⟨p,m,c',hq⟩:=YM ha h1;exact⟨_,_,_,hq⟩
  refine⟨?_,?_,?_⟩
  ·rcases eqNil_some e with⟨h1,h2,rfl⟩|⟨h1,h2,rfl⟩|⟨h1,h2,rfl⟩
   ·rw[BA ha h1,BA hb hc];simp[Op.equalIn,bj hd]
   ·omega
   ·obtain⟨p,m,c',hq⟩:=YM ha h1;rw[hq,BA hb hc];simp[Op.equalIn,bj hd]
  ·obtain⟨p,m,c',rfl⟩:=ex;rintro⟨h1,_⟩;cases h1
  ·obtain⟨p,m,c',rfl⟩:=ex;rintro⟨p',q',h1,_⟩;cases h1
 case map kt el=>
  generalize 9999=dep;cases hk;have e:sT (ZO a) (ZO b)=some r:=e;have ex:∃ p,x=.map p:=by
   rcases eqNil_some e with⟨h1,_,_⟩|⟨h1,_,_⟩|⟨h1,_,_⟩
   ·exact⟨_,uh ha h1⟩
   ·exact⟨_,uh ha h1⟩
   ·obtain⟨q,hq⟩:=Ih ha h1;exact⟨_,hq⟩
  refine⟨?_,?_,?_⟩
  ·rcases eqNil_some e with⟨h1,h2,rfl⟩|⟨h1,h2,rfl⟩|⟨h1,h2,rfl⟩
   ·rw[uh ha h1,uh hb h2];simp[Op.equalIn,bj hd]
   ·obtain⟨q,hq⟩:=Ih hb h2;rw[uh ha h1,hq];simp[Op.equalIn,bj hd]
   ·obtain⟨q,hq⟩:=Ih ha h1;rw[hq,uh hb h2];simp[Op.equalIn,bj hd]
  ·obtain⟨p,rfl⟩:=ex;rintro⟨h1,_⟩;cases h1
  ·obtain⟨p,rfl⟩:=ex;rintro⟨p',q',h1,_⟩;cases h1
 case func ps rs vd=>
  generalize 9999=dep;cases hk;have e:sT (ZP a) (ZP b)=some r:=e;have ex:x=.nilFunc∨∃ f p q,x=.func f p q:=by
   rcases eqNil_some e with⟨h1,_,_⟩|⟨h1,_,_⟩|⟨h1,_,_⟩
   ·exact .inl (uj ha h1)
   ·exact .inl (uj ha h1)
   ·exact .inr (Ii ha h1)
  refine⟨?_,?_,?_⟩
  ·rcases eqNil_some e with⟨h1,h2,rfl⟩|⟨h1,h2,rfl⟩|⟨h1,h2,rfl⟩
   ·rw[uj ha h1,uj hb h2];simp[Op.equalIn,bj hd]
   ·obtain⟨f,p,q,hq⟩:=Ii hb h2;rw[uj ha h1,hq];simp[Op.equalIn,bj hd]
   ·obtain⟨f,p,q,hq⟩:=Ii ha h1;rw[hq,uj hb h2];simp[Op.equalIn,bj hd]
  ·rcases ex with rfl|⟨f,p,q,rfl⟩<;>(rintro⟨h1,_⟩;cases h1)
  ·rcases ex with rfl|⟨f,p,q,rfl⟩<;>(rintro⟨p',q',h1,_⟩;cases h1)
 case interface ms=>
  generalize 9999=dep;cases hk;obtain⟨hc,e⟩:=aN (c:=or c (Nat.beq (Nat.add (Fy a) (Fy b)) 1)) e;have ex:x=.nilIface∨∃ t' p,x=.iface t' p:=by
   rcases eqNil_some e with⟨h1,_,_⟩|⟨h1,_,_⟩|⟨h1,_,_⟩
   ·exact .inl (ui ha h1)
   ·exact .inl (ui ha h1)
   ·exact .inr (xN ha h1)
  refine⟨?_,?_,?_⟩
  ·rcases eqNil_some e with⟨h1,h2,rfl⟩|⟨h1,h2,rfl⟩|⟨h1,h2,rfl⟩
   ·rw[ui ha h1,ui hb h2];simp[Op.equalIn,bj hd]
   ·obtain⟨f,p,hq⟩:=xN hb h2;rw[ui ha h1,hq];simp[Op.equalIn,bj hd]
   ·obtain⟨f,p,hq⟩:=xN ha h1;rw[hq,ui hb h2];simp[Op.equalIn,bj hd]
  ·rintro⟨h1,h2⟩;rcases eqNil_some e with⟨q1,q2,_⟩|⟨_,q2,_⟩|⟨q1,_,_⟩
   ·cases c with
    |true=>rfl
    |false=>
     have:Nat.beq (Nat.add (Fy a) (Fy b)) 1=true:=by simpa using hc
     rw[q1,q2]at this;cases this
   ·obtain⟨f,p,hq⟩:=xN hb q2;rw[hq]at h2;cases h2
   ·obtain⟨f,p,hq⟩:=xN ha q1;rw[hq]at h1;cases h1
  ·rcases ex with rfl|⟨f,p,rfl⟩<;>(rintro⟨p',q',h1,_⟩;cases h1)
 case struct fs=>
  obtain⟨hc,hk⟩:=fO (c:=C.P.stoodInHeld t||C.P.eqGuardType C.P.depth t) hk;obtain⟨l,hl,hk⟩:=aA hk;cases hk;have hc:C.P.stoodInHeld t=false/\C.P.eqGuardType C.P.depth t=false:=by simpa using hc
  obtain⟨as,has,e⟩:=aA (o:=Hz a) e;obtain⟨bs,hbs,e⟩:=aA e;rw[jY has]at ha;rw[jY hbs]at hb;obtain⟨us,_,hu,rfl⟩:=ha.agg_inv;obtain⟨ys,_,hy,rfl⟩:=hb.agg_inv;refine⟨lR hd hc.1 hl hu hy e,?_,fun _=>hc.2⟩;rintro⟨h1,_⟩;cases h1
end
