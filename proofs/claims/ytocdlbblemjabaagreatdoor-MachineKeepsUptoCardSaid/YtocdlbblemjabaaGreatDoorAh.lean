/- AbsGo: one operation of the evaluator's is one of the model's: maps, len, max and min (no condition). -/
import Derived.Test.YtocdlbblemjabaaGreatDoorAg
namespace Go.AG
section
variable {C:Cx}{g:Gh}{U:Nat->Option (List AV)}{h h':AH}{w:World}{tm:Tm}{tmps:Array Value}{v:AV}
theorem FH {d:TypeDesc}{n:Nat}{a b:AV}{x y:Value}{r:Bool}(hn:Hw d=some n)(ha:bA g a x)(hb:bA g b y)(e:eM n a b=some r):Instr.sameNow d x y=some r:=by
 rcases samePl_cases e with⟨rfl,k,m,m',rfl,rfl,rfl⟩|⟨rfl,s,s',rfl,rfl,rfl⟩|⟨n1,n2,p,q,rfl,rfl,rfl⟩
 ·rcases tagD_ok hn with⟨h0,_⟩|⟨_,k',rfl⟩|⟨h0,_⟩
  ·omega
  ·rw[ha.int_inv,hb.int_inv];simp[Instr.sameNow]
  ·omega
 ·rcases tagD_ok hn with⟨h0,_⟩|⟨h0,_⟩|⟨_,rfl⟩
  ·omega
  ·omega
  ·rw[ha.str_inv,hb.str_inv,lu];rfl
 ·rcases tagD_ok hn with⟨_,rfl⟩|⟨h0,_⟩|⟨h0,_⟩
  ·rw[ha.bool_inv,hb.bool_inv];rfl
  ·omega
  ·omega
theorem uV (e:AV×AV)(l:List (AV×AV))(t:Nat)(k:AV):lL (e::l) t k=aD (cN t k e.1) fun b=>cond b (some (some e.2)) (lL l t k):=rfl
theorem yp (e:AV×AV)(l:List (AV×AV))(t:Nat)(k v:AV):rb (e::l) t k v=Option.casesOn (cN t k e.1) (e::rb l t k v) fun b=>cond b ((k,v)::l) (e::rb l t k v):=rfl
theorem tH {d:TypeDesc}{n:Nat}(hn:Hw d=some n)(a b:AV):cN n a b=eM n a b:=by
 unfold cN;rcases tagD_ok hn with⟨rfl,_⟩|⟨rfl,_⟩|⟨rfl,_⟩<;>rfl
theorem findNow_ok {d:TypeDesc}{n:Nat}{k:AV}{x:Value}(hn:Hw d=some n)(hk:bA g k x):∀ {l:List (AV×AV)} {es:List MapEntry} {r:Option AV} (i:Nat),lH g l es->lL l n k=some r->
  (r=none/\Instr.findNow d x es i=some none/\rb l n k v=l++[(k,v)])∨
  (∃ (a:AV) (j:Nat) (e:MapEntry) (y:Value),r=some a/\Instr.findNow d x es i=some (some (i+j,y))/\bA g a y/\es[j]?=some e/\rb l n k v=l.set j (k,v)/\(∃ k0,l[j]?=some (k0,a)/\bA g k0 e.key/\cN n k k0=some true))
 |_,_,r,i,.nil,e=>by cases e;exact .inl ⟨rfl,rfl,rfl⟩
 |_,_,r,i,.cons (k:=k') (v:=v') (e:=me) (l:=l) (es:=es) hk' hv' t,e=>by
  rw[uV]at e;obtain⟨b,hb,e⟩:=aA e;have hs:=FH hn hk hk' (by rw[<- tH hn];exact hb);rw[yp];simp only at hb;rw[hb];cases b with
  |true=>
   cases e;exact .inr ⟨v',0,me,me.val,rfl,by simp[Instr.findNow,hs],hv',rfl,rfl,k',rfl,hk',hb⟩
  |false=>
   have e:lL l n k=some r:=e;rcases findNow_ok hn hk (i+1) t e with⟨h1,h2,h3⟩|⟨a,j,me',y,h1,h2,h3,h4,h5,k0,h6,h7,h8⟩
   ·exact .inl ⟨h1,by simp[Instr.findNow,hs,h2],by simp[h3]⟩
   ·exact .inr ⟨a,j+1,me',y,h1,by simp[Instr.findNow,hs,h2];omega,h3,by simpa using h4,by simp[h5],k0,by simpa using h6,h7,h8⟩
structure Two (C:Cx)(kt:TypeId)(d:TypeDesc)(fs:Array Field):Prop where
 desc:d=.struct fs
 held:C.P.stoodInHeld kt=false
 fields:hX (eT C.T) fs.toList=some [(0,1),(1,1)]
theorem keyN_ok {kt:TypeId}{d:TypeDesc}{n:Nat}(h:TX C.P C.T kt d=some n):Hw d=some n∨(n=3/\∃ fs,Two C kt d fs):=by
 unfold TX at h;cases ht:Hw d with
 |some m=>rw[ht]at h;exact .inl h
 |none=>
  rw[ht]at h;cases d<;>first|(cases h;done)|skip
  case struct fs=>
   have h:(bif C.P.stoodInHeld kt then none else aD (hX (eT C.T) fs.toList) fun l=>bif Il l then some 3 else none)=some n:=h;cases hs:C.P.stoodInHeld kt with
   |true=>rw[hs]at h;cases h
   |false=>
    rw[hs]at h;obtain⟨l,hl,h⟩:=aA (o:=hX (eT C.T) fs.toList) h;unfold Il at h;split at h
    ·cases h;exact .inr ⟨rfl,fs,rfl,hs,hl⟩
    ·cases h
theorem uL {v:AV}{p:AV×AV}(h:Hj v=some p):v=.agg [p.1,p.2]:=by
 cases v<;>first|(cases h;done)|skip
 case agg l=>
  match l,h with
  |[a,b],h=>cases h;rfl
theorem ow {a b:AV}{r:Bool}(e:cN 3 a b=some r):∃ p q:AV×AV,a=.agg [p.1,p.2]/\b=.agg [q.1,q.2]/\pQ [(0,1),(1,1)] [p.1,p.2] [q.1,q.2]=some r/\
  (r=true->eM 1 p.1 q.1=some true/\eM 1 p.2 q.2=some true):=by
 have e:(aD (Hj a) fun p=>aD (Hj b) fun q=>aD (eM 1 p.1 q.1) fun s=>cond s (eM 1 p.2 q.2) (some false))=some r:=e;obtain⟨p,hp,e⟩:=aA e;obtain⟨q,hq,e⟩:=aA e;obtain⟨s,hs,e⟩:=aA e;refine⟨p,q,uL hp,uL hq,?_,?_⟩
 ·show(aD (eM 1 p.1 q.1) fun s=>cond s (aD (eM 1 p.2 q.2) fun s=>cond s (some true) (some false)) (some false))=_;rw[hs];cases s with
  |false=>exact e
  |true=>
   have e:eM 1 p.2 q.2=some r:=e;show(aD (eM 1 p.2 q.2) fun s=>cond s (some true) (some false))=_;rw[e];cases r<;>rfl
 ·rintro rfl;cases s with
  |false=>cases e
  |true=>exact⟨hs,e⟩
theorem QC {kt:TypeId}{d:TypeDesc}{fs:Array Field}(hd:und C.T kt=some d)(t:Two C kt d fs){a b:AV}{x y:Value}{r:Bool}(ha:bA g a x)(hb:bA g b y)(e:cN 3 a b=some r):
  (Op.equal kt x y).run C.P w=.ok r w:=by
 obtain⟨p,q,rfl,rfl,e,_⟩:=ow e;obtain⟨us,_,hu,rfl⟩:=ha.agg_inv;obtain⟨ys,_,hy,rfl⟩:=hb.agg_inv;exact lR (t.desc▸hd) t.held t.fields hu hy e
theorem two_ask {kt:TypeId}{d:TypeDesc}{fs:Array Field}(hd:und C.T kt=some d)(t:Two C kt d fs){k:AV}{x:Value}(hk:bA g k x):
  ∀ {l:List (AV×AV)} {es:List MapEntry} {r:Option AV} (i:Nat),lH g l es->lL l 3 k=some r->
  (r=none/\(Instr.findAsking kt x es i).run C.P w=.ok none w/\rb l 3 k v=l++[(k,v)])∨
  (∃ (a:AV) (j:Nat) (e:MapEntry) (y:Value),r=some a/\(Instr.findAsking kt x es i).run C.P w=.ok (some (i+j,y)) w/\bA g a y/\es[j]?=some e/\rb l 3 k v=l.set j (k,v)/\(∃ k0,l[j]?=some (k0,a)/\bA g k0 e.key/\cN 3 k k0=some true))
 |_,_,r,i,.nil,e=>by cases e;exact .inl ⟨rfl,by simp[Instr.findAsking],rfl⟩
 |_,_,r,i,.cons (k:=k') (v:=v') (e:=me) (l:=l) (es:=es) hk' hv' t',e=>by
  rw[uV]at e;obtain⟨b,hb,e⟩:=aA e;have hs:=QC (w:=w) hd t hk hk' hb;rw[yp];simp only at hb;rw[hb];cases b with
  |true=>
   cases e;exact .inr ⟨v',0,me,me.val,rfl,by simp[Instr.findAsking,hs],hv',rfl,rfl,k',rfl,hk',hb⟩
  |false=>
   have e:lL l 3 k=some r:=e;rcases two_ask hd t hk (i+1) t' e with⟨h1,h2,h3⟩|⟨a,j,me',y,h1,h2,h3,h4,h5,k0,h6,h7,h8⟩
   ·exact .inl ⟨h1,by simp[Instr.findAsking,hs,h2],by simp[h3]⟩
   ·exact .inr ⟨a,j+1,me',y,h1,by simp[Instr.findAsking,hs,h2];omega,h3,by simpa using h4,by simp[h5],k0,by simpa using h6,h7,h8⟩
theorem findKey_ok {kt:TypeId}{d:TypeDesc}{n:Nat}(hd:und C.T kt=some d)(hn:TX C.P C.T kt d=some n){k:AV}{x:Value}(hk:bA g k x){l:List (AV×AV)}{es:List MapEntry}{r:Option AV}(he:lH g l es)(e:lL l n k=some r):
  (r=none/\(Instr.findKey kt x es).run C.P w=.ok none w/\rb l n k v=l++[(k,v)])∨
  (∃ (a:AV) (j:Nat) (e:MapEntry) (y:Value),r=some a/\(Instr.findKey kt x es).run C.P w=.ok (some (0+j,y)) w/\bA g a y/\es[j]?=some e/\rb l n k v=l.set j (k,v)/\(∃ k0,l[j]?=some (k0,a)/\bA g k0 e.key/\cN n k k0=some true)):=by
 rcases keyN_ok hn with ht|⟨rfl,fs,t⟩
 ·rcases findNow_ok (v:=v) ht hk 0 he e with⟨h1,h2,h3⟩|⟨a,j,me',y,h1,h2,h3⟩
  ·exact .inl ⟨h1,by simp[Instr.findKey,bj hd,h2],h3⟩
  ·exact .inr ⟨a,j,me',y,h1,by simp[Instr.findKey,bj hd,h2],h3⟩
 ·have hnow:∀ es,Instr.findNow d x es 0=some none∨Instr.findNow d x es 0=none:=by
   intro es;cases es with
   |nil=>exact .inl rfl
   |cons e es=>
    have:Instr.sameNow d x e.key=none:=by rw[t.desc];rfl
    exact .inr (by simp[Instr.findNow,this])
  have two:=two_ask (w:=w) (v:=v) hd t hk 0 he e;rcases hnow es with q|q
  ·cases es with
   |nil=>cases he;cases e;exact .inl ⟨rfl,by simp[Instr.findKey,bj hd,q],rfl⟩
   |cons me es=>
    have:Instr.sameNow d x me.key=none:=by rw[t.desc];rfl
    simp[Instr.findNow,this]at q
  ·have hrun:(Instr.findKey kt x es).run C.P w=(Instr.findAsking kt x es 0).run C.P w:=by simp[Instr.findKey,bj hd,q]
   rw[hrun];exact two
theorem QD {us:List Value}{as:List AV}(hu:aY g as us)(b:Bool)(dep:Nat):∀ (fs:List Field) (l:List (Nat×Nat)),hX (eT C.T) fs=some l->(∀ p∈l,(pT p.1 as).isSome)->
  (forIn (m:=Sem) fs () fun f _=>if f.name≠ "_" then do
    let a <- part f.type ⟨us⟩ f.offset
    Instr.checkKey b (dep+1) f.type a
    pure (ForInStep.yield ())
   else pure (ForInStep.yield ())).run C.P w=.ok () w:=by
 intro fs;induction fs with
 |nil=>intro l _ _;simp
 |cons f fs ih=>
  intro l e1 hl;obtain⟨p,l',hp,hl',rfl⟩:=bS e1;unfold eT at hp;split at hp
  ·cases hp
  ·rename_i hname;obtain⟨d,hd,hp⟩:=aA hp;obtain⟨n,hn,hp⟩:=aA hp;obtain⟨sz,hsz,hp⟩:=aA hp;cases hp;obtain⟨x,hx⟩:=Option.isSome_iff_exists.1 (hl _ (List.mem_cons_self ..));rw[ie]at hx;obtain⟨xu,hxu,rx⟩:=hu.get hx;have hag:cm C.T f.type=false:=by
    unfold cm;rw[hd];rcases tagD_ok hn with⟨_,rfl⟩|⟨_,k,rfl⟩|⟨_,rfl⟩<;>rfl
   have p1:(part f.type ⟨us⟩ f.offset).run C.P w=.ok xu w:=by
    simp[part,jH hd,hag,hxu]
   have ck:(Instr.checkKey b (dep+1) f.type xu).run C.P w=.ok () w:=by
    unfold Instr.checkKey;simp only[Sem.run_bind,bj hd,Result.andThen_ok];rcases tagD_ok hn with⟨_,rfl⟩|⟨_,k,rfl⟩|⟨_,rfl⟩<;>rfl
   rw[List.forIn_cons];simp only[ne_eq,hname,not_false_eq_true,if_true,Sem.run_bind,p1,ck,Result.andThen_ok,Sem.run_pure];exact ih l' hl' (fun p hp=>hl p (List.mem_cons_of_mem _ hp))
theorem qP {t:TypeId}{d:TypeDesc}{n:Nat}(hd:und C.T t=some d)(hn:TX C.P C.T t d=some n)(b:Bool){k:AV}{x:Value}(hk:bA g k x){r:Bool}(e:cN n k k=some r):(Instr.checkKey b 10000 t x).run C.P w=.ok () w:=by
 rcases keyN_ok hn with ht|⟨rfl,fs,q⟩
 ·show(Instr.checkKey b (9999+1) t x).run C.P w=_;unfold Instr.checkKey;simp only[Sem.run_bind,bj hd,Result.andThen_ok];rcases tagD_ok ht with⟨_,rfl⟩|⟨_,k,rfl⟩|⟨_,rfl⟩<;>rfl
 ·obtain⟨p,_,rfl,_⟩:=ow e;obtain⟨us,_,hu,rfl⟩:=hk.agg_inv;have key:=QD (C:=C) (w:=w) hu b 9998 fs.toList _ q.fields (by intro p hp;simp at hp;rcases hp with rfl|rfl<;>rfl);show(Instr.checkKey b (9999+1) t _).run C.P w=_;unfold Instr.checkKey;rw[q.desc]at hd;simp only[Sem.run_bind,bj hd,Result.andThen_ok,<- Array.forIn_toList];exact(congrArg (fun r=>Result.andThen r fun a w'=>Sem.run C.P (pure ()) w') key).trans rfl
theorem tY {t:TypeId}{p:Nat×TypeId}(e:lv C.P C.T t=some p):∃ kt d,und C.T t=some (.map kt p.2)/\und C.T kt=some d/\TX C.P C.T kt d=some p.1:=by
 obtain⟨d,hd,e⟩:=aA e;obtain⟨ke,hke,e⟩:=aA e;obtain⟨d',hd',e⟩:=aA e;obtain⟨n,hn,e⟩:=aA e;cases e;cases d<;>first|(cases hke;done)|skip
 case map kt el=>
  cases hke;exact⟨kt,d',hd,hd',hn⟩
theorem tz (s:Sim C g U h w){k:Nat}{l:Loc}{es:List (AV×AV)}(hl:g.ρ k 0=some l)(e:BG h k=some es):
  h.get k=some (.map es)/\U k=none/\∃ mes clock,w.heap[l.block]?=some (.map mes clock)/\lH g es mes.toList/\Uc mes clock:=by
 obtain⟨o,ho,e⟩:=aA e;cases o<;>first|(cases e;done)|skip
 case map es'=>
  cases e;have hu:=s.live hl;obtain⟨l',h1,h2,h3⟩:=s.obj k _ ho hu;have h1:g.ρ k 0=some l':=h1;rw[hl]at h1;cases h1;exact⟨ho,hu,h3⟩
theorem ko {r:Nat}{ob:Obj}(e:w.heap[r]?=some ob)(hc:∀ c t f,ob≠.cells c t f):(getObj r).run C.P w=.ok ob w:=by
 unfold getObj;cases ob<;>first|(exact absurd rfl (hc _ _ _))|simp only[Sem.run,e]
theorem iY {r:Nat}{ob ob':Obj}(e:w.heap[r]?=some ob)(hc:∀ c t f,ob≠.cells c t f):(setObj r ob').run C.P w=.ok () (setBlk w r ob'):=by
 unfold setObj;cases ob<;>first|(exact absurd rfl (hc _ _ _))|(simp only[Sem.run,e];rfl)
theorem lH.length {l:List (AV×AV)}{es:List MapEntry}(h:lH g l es):l.length=es.length:=by
 induction h with
 |nil=>rfl
 |cons _ _ _ ih=>simp[ih]
theorem RG (s:Sim C g U h w)(ht:ep g tm tmps){o:Oper}{t:TypeId}{x i:Operand}{ax ai:AX}{p:Nat×TypeId}{z:AV}{ok:Bool}(ho:o.op=.lookup t x i ok)(hp:lv C.P C.T t=some p)
  (hz:jN C.T p.2=some z) (hx:cX x=some ax) (hi:cX i=some ai) (e:okV (fm h p.1 z ok (ev ax tm) (ev ai tm)) h=.val v h'):gG C g U h ((execOp (alc tmps) o).run C.P w) v h':=by
 obtain⟨e',rfl⟩:=dx e;clear e;obtain⟨b0,hb0,e'⟩:=aA e';obtain⟨r,hr,e'⟩:=aA e';cases e';obtain⟨kt,d,hd,hkt,hn⟩:=tY hp;obtain⟨iz,zv,hiz,hzv,hzr,_⟩:=iG g hz;have zrun:=cZ (w:=w) hiz hzv;have rx:=bQ ht hx;have ri:=bQ ht hi;have fin:∀ (es:List MapEntry) (l:List (AV×AV)),lH g l es->lL l p.1 (ev ai tm)=some r->
   ∃ fr,(Instr.findKey kt (alc tmps i) es).run C.P w=.ok fr w/\((fr=none/\r=none)∨∃ j y a,fr=some (j,y)/\r=some a/\bA g a y):=by
  intro es l he hf;rcases findKey_ok (v:=z) hkt hn ri he hf with⟨rfl,h2,_⟩|⟨a,j,me,y,rfl,h2,h3,h4,_⟩
  ·exact⟨none,h2,.inl ⟨rfl,rfl⟩⟩
  ·exact⟨some (0+j,y),h2,.inr ⟨_,_,_,rfl,rfl,h3⟩⟩
 have chk:∀ b,(Instr.checkKey b 10000 kt (alc tmps i)).run C.P w=.ok () w:=fun b=>qP hkt hn b ri hb0
 generalize ev ax tm=a at rx hr;cases a<;>first|(cases hr;done)|skip
 case nilm=>
  cases hr;obtain⟨fr,hfr,hcase⟩:=fin [] [] .nil rfl;rcases hcase with⟨rfl,_⟩|⟨_,_,_,_,q,_⟩
  ·refine bc (u:=if ok then .tuple #[zv,.bool false] else zv) s ?_ ?_
   ·simp only[execOp,ho,rx.nilm_inv,Instr.lookup,Sem.run_bind,bj hd,Result.andThen_ok,Sem.run_pure,chk,hfr,zrun]
   ·cases ok
    ·exact hzr
    ·exact .tup (.cons hzr (.cons (.bool _) .nil))
  ·cases q
 case map k=>
  obtain⟨es,hes,hr⟩:=aA hr;obtain⟨l,hl,hu⟩:=rx.map_inv;obtain⟨q1,q2,mes,clock,q3,q4,_⟩:=tz s hl hes;obtain⟨fr,hfr,hcase⟩:=fin mes.toList es q4 hr;have hg:=ko (C:=C) q3 (fun _ _ _ q=>by cases q);rcases hcase with⟨rfl,rfl⟩|⟨j,y,a,rfl,rfl,hay⟩
  ·refine bc (u:=if ok then .tuple #[zv,.bool false] else zv) s ?_ ?_
   ·simp only[execOp,ho,hu,Instr.lookup,Sem.run_bind,bj hd,Result.andThen_ok,Sem.run_pure,hg,chk,hfr,zrun]
   ·cases ok
    ·exact hzr
    ·exact .tup (.cons hzr (.cons (.bool _) .nil))
  ·refine bc (u:=if ok then .tuple #[y,.bool true] else y) s ?_ ?_
   ·simp only[execOp,ho,hu,Instr.lookup,Sem.run_bind,bj hd,Result.andThen_ok,Sem.run_pure,hg,chk,hfr]
   ·cases ok
    ·exact hay
    ·exact .tup (.cons hay (.cons (.bool _) .nil))
theorem ox {n:Nat}{a b:AV}{x y:Value}(ha:bA g a x)(hb:bA g b y)(e:eM n a b=some true)(dep:Nat):Instr.sameBits dep y x=true:=by
 rcases samePl_cases e with⟨rfl,k,m,m',rfl,rfl,hr⟩|⟨rfl,s,s',rfl,rfl,hr⟩|⟨n1,n2,p,q,rfl,rfl,hr⟩
 ·rw[ha.int_inv,hb.int_inv];have:m=m':=by simpa using hr.symm
  subst this;simp[Instr.sameBits]
 ·rw[ha.str_inv,hb.str_inv];rw[lu]at hr;have:(s'==s)=true:=by
   have e1:(s==s')=(s.data==s'.data):=rfl;have e2:(s'==s)=(s'.data==s.data):=rfl;rw[e1]at hr;have:s.data=s'.data:=by simpa using hr.symm
   rw[e2,this];simp
  simp[Instr.sameBits,this]
 ·rw[ha.bool_inv,hb.bool_inv];have:p=q:=by simpa using hr.symm
  subst this;simp[Instr.sameBits]
theorem zy {kt:TypeId}{d:TypeDesc}{n:Nat}(hn:TX C.P C.T kt d=some n){a b:AV}{x y:Value}(ha:bA g a x)(hb:bA g b y)(e:cN n a b=some true)(dep:Nat):Instr.sameBits (dep+1) y x=true:=by
 rcases keyN_ok hn with ht|⟨rfl,fs,q⟩
 ·rw[tH ht]at e;exact ox ha hb e _
 ·obtain⟨p,q,rfl,rfl,_,e⟩:=ow e;obtain⟨e1,e2⟩:=e rfl;obtain⟨us,_,hu,rfl⟩:=ha.agg_inv;obtain⟨ys,_,hy,rfl⟩:=hb.agg_inv;cases hu with
  |cons u1 hu=>cases hu with
   |cons u2 hu=>
    cases hu;cases hy with
    |cons y1 hy=>cases hy with
     |cons y2 hy=>
      cases hy;simp[Instr.sameBits,ox u1 y1 e1,ox u2 y2 e2]
theorem lH.set {k v:AV}{e':MapEntry}(hk:bA g k e'.key)(hv:bA g v e'.val):∀ {l:List (AV×AV)} {es:List MapEntry} (j:Nat),lH g l es->lH g (l.set j (k,v)) (es.set j e')
 |_,_,_,.nil=>by simp;exact .nil
 |_,_,0,.cons _ _ t=>.cons hk hv t
 |_,_,j+1,.cons a b t=>.cons a b (lH.set hk hv j t)
theorem lH.snoc {k v:AV}{e':MapEntry}(hk:bA g k e'.key)(hv:bA g v e'.val):∀ {l:List (AV×AV)} {es:List MapEntry},lH g l es->lH g (l++[(k,v)]) (es++[e'])
 |_,_,.nil=>.cons hk hv .nil
 |_,_,.cons a b t=>.cons a b (lH.snoc hk hv t)
theorem Va (s:Sim C g U h w)(ht:ep g tm tmps){o:Oper}{t:TypeId}{m k x:Operand}{am ak ax:AX}{p:Nat×TypeId}(ho:o.op=.mapUpdate t m k x)(hp:lv C.P C.T t=some p)
  (hm:cX m=some am) (hk:cX k=some ak) (hx:cX x=some ax) (e:okH (fK h p.1 (ev am tm) (ev ak tm) (ev ax tm))=.val v h'):gG C g U h ((execOp (alc tmps) o).run C.P w) v h':=by
 obtain⟨e',rfl⟩:=Be e;clear e;obtain⟨r,hr,e'⟩:=aA e';obtain⟨es,hes,e'⟩:=aA e';obtain⟨b0,hb0,e'⟩:=aA e';obtain⟨fr,hfr,e'⟩:=aA e';cases e';obtain⟨kt,d,hd,hkt,hn⟩:=tY hp;have rm:=bQ ht hm;have rk:=bQ ht hk;have rx:=bQ ht hx;rw[Gd hr]at rm;obtain⟨l,hl,hu⟩:=rm.map_inv;obtain⟨q1,q2,mes,clock,q3,q4,hB1,hB2⟩:=tz s hl hes;have hg:=ko (C:=C) q3 (fun _ _ _ q=>by cases q);have chk:∀ b,(Instr.checkKey b 10000 kt (alc tmps k)).run C.P w=.ok () w:=fun b=>qP hkt hn b rk hb0
 have hlt:l.block<w.heap.size:=(Array.getElem?_eq_some_iff.1 q3).1;have noF:∀ i y,g.F l.block i≠some y:=fun i y q=>by
  have:=s.frz _ _ _ q;unfold World.cell? at this;simp only[q3]at this;cases this
 have put:∀ (mes':Array MapEntry) (clock':Nat),lH g (rb es p.1 (ev ak tm) (ev ax tm)) mes'.toList->Uc mes' clock'->
   Sim C g U (h.set r (.map (rb es p.1 (ev ak tm) (ev ax tm)))) (setBlk w l.block (.map mes' clock')):=by
  intro mes' clock' he hB;exact s.put q1 q2 hl rfl ⟨mes',clock',dZ hlt,he,hB⟩ (fun i y q=>absurd q (noF i y))
 rcases findKey_ok (w:=w) (v:=ev ax tm) hkt hn rk q4 hfr with⟨rfl,h2,h3⟩|⟨a,j,me,y,rfl,h2,h4,h5,h6,k0,h7,h8,h9⟩
 ·have he:lH g (rb es p.1 (ev ak tm) (ev ax tm)) (mes.push {key:=alc tmps k,val:=alc tmps x,born:=clock}).toList:=by
   rw[h3,Array.toList_push];exact q4.snoc rk rx
  have hB:Uc (mes.push {key:=alc tmps k,val:=alc tmps x,born:=clock}) (clock+1):=by
   refine⟨fun y hy=>?_,?_⟩
   ·rw[Array.toList_push]at hy;rcases List.mem_append.1 hy with hy|hy
    ·exact Nat.lt_succ_of_lt (hB1 y hy)
    ·simp at hy;subst hy;exact Nat.lt_succ_self _
   ·rw[Array.toList_push,List.map_append];refine List.nodup_append.2 ⟨hB2,by simp,fun a ha b hb=>?_⟩;obtain⟨y,hy,rfl⟩:=List.mem_map.1 ha;simp at hb;subst hb;have:=hB1 y hy;omega
  refine⟨g,_,undef,.inr ⟨?_,rfl⟩,.refl g,put _ (clock+1) he hB,.tup .nil,Low.set _ _ _⟩;have hfk:=h2;have hso:=iY (C:=C) (ob':=.map (mes.push {key:=alc tmps k,val:=alc tmps x,born:=clock}) (clock+1)) q3 (fun _ _ _ q=>by cases q);simp only[execOp,ho,hu,Instr.mapUpdate,Sem.run_bind,bj hd,Result.andThen_ok,hg,chk,hfk,hso,Sem.run_pure]
 ·have hj:j<mes.size:=by have:=getElem?_lt h5;simpa using this
  have hbits:Instr.sameBits 10000 me.key (alc tmps k)=true:=zy hn rk h8 h9 9999;have he:lH g (rb es p.1 (ev ak tm) (ev ax tm)) (mes.modify j fun e=>{e with key:=alc tmps k,val:=alc tmps x}).toList:=by
   rw[h6];have e1:(mes.modify j fun e=>{e with key:=alc tmps k,val:=alc tmps x}).toList=mes.toList.set j {me with key:=alc tmps k,val:=alc tmps x}:=by
    apply List.ext_getElem?;intro i;rw[Array.getElem?_toList,Array.getElem?_modify,List.getElem?_set];have h5':mes[j]?=some me:=by simpa using h5
    by_cases hij:j=i
    ·subst hij;have hme:mes[j]=me:=by rw[Array.getElem?_eq_getElem hj]at h5';exact Option.some.inj h5'
     simp[hj,hme]
    ·simp[hij]
   rw[e1];exact q4.set rk rx j
  have hB:Uc (mes.modify j fun e=>{e with key:=alc tmps k,val:=alc tmps x}) clock:=by
   have e1:((mes.modify j fun e=>{e with key:=alc tmps k,val:=alc tmps x}).toList.map (·.born))=mes.toList.map (·.born):=by
    apply List.ext_getElem?;intro i;rw[List.getElem?_map,List.getElem?_map,Array.getElem?_toList,Array.getElem?_toList,Array.getElem?_modify];by_cases hij:j=i
    ·subst hij;rw[P_ rfl];cases mes[j]?<;>rfl
    ·rw[N_ hij]
   refine⟨fun y hy=>?_,by rw[e1];exact hB2⟩;have:y.born∈mes.toList.map (·.born):=by rw[<- e1];exact List.mem_map_of_mem hy
   obtain⟨z,hz,e⟩:=List.mem_map.1 this;rw[<- e];exact hB1 z hz
  refine⟨g,_,undef,.inr ⟨?_,rfl⟩,.refl g,put _ clock he hB,.tup .nil,Low.set _ _ _⟩;have hfk:=h2;have hso:=iY (C:=C) (ob':=.map (mes.modify j fun e=>{e with key:=alc tmps k,val:=alc tmps x}) clock) q3 (fun _ _ _ q=>by cases q);have h5':mes[j]?=some me:=by simpa using h5
  have hks:(Instr.keyThatStays (((mes[j]?).map (·.key)).getD (alc tmps k)) (alc tmps k)).run C.P w=.ok (alc tmps k) w:=by
   rw[h5'];simp[Instr.keyThatStays,hbits]
  simp only[execOp,ho,hu,Instr.mapUpdate,Sem.run_bind,bj hd,Result.andThen_ok,hg,chk,hfk,hks,z_,hso,Sem.run_pure]
theorem aik (s:Sim C g U h w)(ht:ep g tm tmps){o:Oper}{c:Call}{x:Operand}{ax:AX}{el:TypeId}(ho:o.op=.call c)(hc:c.callee=.builtin .cap)(ha:c.args=#[x])
  (hty:iD C.T c.argTypes 0=some el) (hx:cX x=some ax)
  (e:okV (aD (lenOf (ev ax tm) h 3) fun n=>some (.int .i64 (.ofNat n))) h=.val v h'):gG C g U h ((execOp (alc tmps) o).run C.P w) v h':=by
 obtain⟨e',rfl⟩:=dx e;clear e;obtain⟨n,hn,e'⟩:=aA e';cases e';have rx:=bQ ht hx;obtain⟨t,ht1,hd⟩:=aA (show aD c.argTypes.toList[0]? (fun t=>pF C.T t)=_ from hty);obtain⟨d,hd,hs⟩:=aA (show aD (und C.T t) WZ=_ from hd);have hty':c.argTypes[0]?=some t:=by simpa using ht1
 generalize ev ax tm=a at rx hn;cases a<;>first|(cases hn;done)|skip
 case nl=>
  cases hn;cases d<;>first|(cases hs;done)|skip
  have hq:(Builtin.cap_ c.argTypes o.type #[alc tmps x]).run C.P w=.ok (.int .i64 0) w:=by
   simp[Builtin.cap_,hty',rx.nils_inv,bj hd,goInt]
  exact bc (u:=.int .i64 0) s (by simp[execOp,ho,resolve,hc,ha,invoke,builtin,hq]) (.int _ _)
theorem aij (s:Sim C g U h w)(ht:ep g tm tmps){o:Oper}{c:Call}{x:Operand}{ax:AX}{t:TypeId}{d:TypeDesc}{kk:Nat}(ho:o.op=.call c)(hc:c.callee=.builtin .len)(ha:c.args=#[x])
  (hty:c.argTypes.toList[0]?=some t) (hd:und C.T t=some d) (hl:lenD d=some kk) (hx:cX x=some ax)
  (e:okV (aD (lenOf (ev ax tm) h kk) fun n=>some (.int .i64 (.ofNat n))) h=.val v h'):gG C g U h ((execOp (alc tmps) o).run C.P w) v h':=by
 obtain⟨e',rfl⟩:=dx e;clear e;obtain⟨n,hn,e'⟩:=aA e';cases e';have rx:=bQ ht hx;have hty':c.argTypes[0]?=some t:=by simpa using hty
 have run:(Builtin.len_ c.argTypes o.type #[alc tmps x]).run C.P w=.ok (.int .i64 (n:Int)) w->(execOp (alc tmps) o).run C.P w=.ok (.value (.int .i64 (n:Int))) w:=by
  intro hq;simp[execOp,ho,resolve,hc,ha,invoke,builtin,hq]
 refine bc s (run ?_) (.int _ _);have lenk:(kk=0/\d=.string)∨(kk=1/\∃ el,d=.slice el)∨(kk=2/\∃ k el,d=.map k el):=by
  cases d<;>first|(cases hl;done)|skip
  case string=>cases hl;exact .inl ⟨rfl,rfl⟩
  case slice el=>cases hl;exact .inr (.inl ⟨rfl,el,rfl⟩)
  case map k el=>cases hl;exact .inr (.inr ⟨rfl,k,el,rfl⟩)
 have slice:∀ a m cap,alc tmps x=.slice a m cap->kk=1->(Builtin.len_ c.argTypes o.type #[alc tmps x]).run C.P w=.ok (.int .i64 (m:Int)) w:=by
  intro a m cap hu hk;rcases lenk with⟨q,_⟩|⟨_,el,rfl⟩|⟨q,_⟩
  ·omega
  ·simp[Builtin.len_,hty',hu,bj hd,goInt]
  ·omega
 generalize ev ax tm=a at rx hn;cases a<;>first|(cases hn;done)|skip
 case str sv=>
  obtain⟨hk,hn⟩:=aN (c:=Nat.beq kk 0) hn;cases hn;have hk:=beq_eq hk;rcases lenk with⟨_,rfl⟩|⟨q,_⟩|⟨q,_⟩
  ·simp[Builtin.len_,hty',rx.str_inv,bj hd,goInt]
  ·omega
  ·omega
 case nl=>
  obtain⟨hk,hn⟩:=aN (c:=or (Nat.beq kk 1) (Nat.beq kk 3)) hn;cases hn;refine slice _ _ _ rx.nils_inv ?_;rcases lenk with⟨rfl,_⟩|⟨rfl,_⟩|⟨rfl,_⟩
  ·cases hk
  ·rfl
  ·cases hk
 case ls es=>
  obtain⟨hk,hn⟩:=aN (c:=Nat.beq kk 1) hn;cases hn;rw[bH];obtain⟨a,cap,hu,_⟩:=rx.lst_inv;exact slice _ _ _ hu (beq_eq hk)
 case clip es=>
  obtain⟨hk,hn⟩:=aN (c:=Nat.beq kk 1) hn;cases hn;rw[bH];obtain⟨a,hu,_⟩:=rx.clip_inv;exact slice _ _ _ hu (beq_eq hk)
 case row k gn sz off m=>
  obtain⟨hk,hn⟩:=aN (c:=Nat.beq kk 1) hn;cases hn;obtain⟨l,a,_,_,_,hu,_⟩:=rx.row_inv;exact slice _ _ _ hu (beq_eq hk)
 case nilm=>
  obtain⟨hk,hn⟩:=aN (c:=Nat.beq kk 2) hn;cases hn;have hk:=beq_eq hk;rcases lenk with⟨q,_⟩|⟨q,_⟩|⟨_,k,el,rfl⟩
  ·omega
  ·omega
  ·simp[Builtin.len_,hty',rx.nilm_inv,bj hd,goInt]
 case map k=>
  obtain⟨hk,hn⟩:=aN (c:=Nat.beq kk 2) hn;obtain⟨es,hes,hn⟩:=aA hn;cases hn;have hk:=beq_eq hk;obtain⟨l,hl',hu⟩:=rx.map_inv;obtain⟨q1,q2,mes,clock,q3,q4,_⟩:=tz s hl' hes;have hg:=ko (C:=C) q3 (fun _ _ _ q=>by cases q);have hsz:len es=mes.size:=by rw[bH,q4.length];simp
  rw[hsz];rcases lenk with⟨q,_⟩|⟨q,_⟩|⟨_,k',el,rfl⟩
  ·omega
  ·omega
  ·simp[Builtin.len_,hty',hu,bj hd,goInt,hg]
theorem yB (m n:Int):Hi false m n=if n > m then n else m:=by
 show cond (leI n m) m n=_;rw[rA];by_cases h:n<=m
 ·rw[T_ h,N_ o_];rfl
 ·rw[D_ h,P_ o_];rfl
theorem Rp (m n:Int):Hi true m n=if n<m then n else m:=by
 show cond (leI m n) m n=_;rw[rA];by_cases h:m<=n
 ·rw[T_ h,N_ o_];rfl
 ·rw[D_ h,P_ o_];rfl
theorem tR (x:AV)(l:List AV)(less:Bool)(k:IntKind)(m:Int):xP (x::l) less k m=aD (zX x) fun p=>xP l less k (Hi less m p.2):=rfl
theorem Oq:∀ {l:List AV} {us:List Value} {k:IntKind} {m:Int},aY g l us->xP l false k m=some v->∃ u,(us.foldlM Builtin.max2 (.int k m)).run C.P w=.ok u w/\bA g v u
 |_,_,k,m,.nil,e=>by cases e;exact⟨_,by simp,.int _ _⟩
 |_,_,k,m,.cons (a:=a) (l:=l) (us:=us) h t,e=>by
  rw[tR]at e;obtain⟨p,hp,e⟩:=aA e;rw[gY hp]at h;rw[yB]at e;obtain⟨u,hu,hv⟩:=Oq t e;refine⟨u,?_,hv⟩;rw[List.foldlM_cons,h.int_inv];simp only[Builtin.max2,Sem.run_bind,Sem.run_pure,Result.andThen_ok];exact hu
theorem Oo:∀ {l:List AV} {us:List Value} {k:IntKind} {m:Int},aY g l us->xP l true k m=some v->∃ u,(us.foldlM Builtin.min2 (.int k m)).run C.P w=.ok u w/\bA g v u
 |_,_,k,m,.nil,e=>by cases e;exact⟨_,by simp,.int _ _⟩
 |_,_,k,m,.cons (a:=a) (l:=l) (us:=us) h t,e=>by
  rw[tR]at e;obtain⟨p,hp,e⟩:=aA e;rw[gY hp]at h;rw[Rp]at e;obtain⟨u,hu,hv⟩:=Oo t e;refine⟨u,?_,hv⟩;rw[List.foldlM_cons,h.int_inv];simp only[Builtin.min2,Sem.run_bind,Sem.run_pure,Result.andThen_ok];exact hu
theorem aih (s:Sim C g U h w)(ht:ep g tm tmps){o:Oper}{c:Call}{la:List AX}(ho:o.op=.call c)(hc:c.callee=.builtin .max)(ha:cXs c.args=some la)
  (e:okV (CJ false (evs la tm)) h=.val v h'):gG C g U h ((execOp (alc tmps) o).run C.P w) v h':=by
 obtain⟨e',rfl⟩:=dx e;clear e;have hr:=nV ht ha;cases hl:evs la tm with
 |nil=>rw[hl]at e';cases e'
 |cons x l=>
  rw[hl]at e' hr;obtain⟨p,hp,e'⟩:=aA (o:=zX x) e';have hargs:(c.args.map (alc tmps)).toList=c.args.toList.map (alc tmps):=by simp
  cases hm:c.args.toList.map (alc tmps) with
  |nil=>rw[hm]at hr;cases hr
  |cons u us=>
   rw[hm]at hr hargs;cases hr with
   |cons h1 h2=>
    rw[gY hp]at h1;obtain⟨y,hy,hv⟩:=Oq (C:=C) (w:=w) h2 e';refine bc s ?_ hv;rw[<- h1.int_inv]at hy;simp[execOp,ho,resolve,hc,invoke,builtin,Builtin.max_,hm,hy]
theorem aif (s:Sim C g U h w)(ht:ep g tm tmps){o:Oper}{c:Call}{la:List AX}(ho:o.op=.call c)(hc:c.callee=.builtin .min)(ha:cXs c.args=some la)
  (e:okV (CJ true (evs la tm)) h=.val v h'):gG C g U h ((execOp (alc tmps) o).run C.P w) v h':=by
 obtain⟨e',rfl⟩:=dx e;clear e;have hr:=nV ht ha;cases hl:evs la tm with
 |nil=>rw[hl]at e';cases e'
 |cons x l=>
  rw[hl]at e' hr;obtain⟨p,hp,e'⟩:=aA (o:=zX x) e';cases hm:c.args.toList.map (alc tmps) with
  |nil=>rw[hm]at hr;cases hr
  |cons u us=>
   rw[hm]at hr;cases hr with
   |cons h1 h2=>
    rw[gY hp]at h1;obtain⟨y,hy,hv⟩:=Oo (C:=C) (w:=w) h2 e';refine bc s ?_ hv;rw[<- h1.int_inv]at hy;simp[execOp,ho,resolve,hc,invoke,builtin,Builtin.min_,hm,hy]
end
section
variable {C:Cx}{g:Gh}{U:Nat->Option (List AV)}{h h':AH}{w:World}{tm:Tm}{tmps:Array Value}{v:AV}
theorem td {l:Loc}{us:Array Value}{t:TypeId}{cs:List AV}{off:Nat}(e:w.heap[l.block]?=some (.cells us t (0,0))):
  ∀ i y,((((us.toList.drop l.base).take cs.length).drop off)[i]?)=some y->w.cell? ⟨l.block,l.base+off+i,none⟩=some y:=by
 intro i y hi;rw[cell_of_row _ _ _ us t (0,0) e];rw[List.getElem?_drop,List.getElem?_take]at hi;split at hi
 ·rw[List.getElem?_drop]at hi;rw[Nat.add_assoc];simpa using hi
 ·cases hi
theorem jP {b off sz n:Nat}{a:Addr}{len cap:Nat}{ws:List Value}(ha:a=⟨b,off,none⟩)(hn:n*sz<=ws.length)(hc:∀ i y,ws[i]?=some y->w.cell? ⟨b,off+i,none⟩=some y):
  (Builtin.firstCells sz n (.slice (some a) len cap)).run C.P w=.ok ⟨ws.take (n*sz)⟩ w:=by
 subst ha;have:=lQ (C:=C) (w:=w) (b:=b) (off:=off) (us:=ws.take (n*sz)) (fun i y hi=>hc i y (by
  rw[List.getElem?_take]at hi;split at hi
  ·exact hi
  ·cases hi))
 rw[List.length_take,Nat.min_eq_left hn]at this;exact this
theorem wP (s:Sim C g U h w){x:AV}{u:Value}{sz:Nat}{xs:List AV}(hx:bA g x u)(e:iU x h sz=some xs):
  ∃ a cap ws,u=.slice a xs.length cap/\xs.length<=cap/\aY g (flat xs) ws/\aR (flat xs)=true/\(∀ e∈xs,e.cells.length=sz)/\
   ∀ (w':World) (n:Nat),(∀ b o y,b<w.heap.size->w.cell? ⟨b,o,none⟩=some y->w'.cell? ⟨b,o,none⟩=some y)->n<=xs.length->(Builtin.firstCells sz n u).run C.P w'=.ok ⟨ws.take (n*sz)⟩ w':=by
 have fin:∀ (a:Option Addr) (cap:Nat),u=.slice a xs.length cap->xs.length<=cap->ew sz xs=true->
   (xs=[]∨∃ sz b off,a=some ⟨b,off,none⟩/\(∀ e∈xs,e.cells.length=sz)/\aR (flat xs)=true/\eu g b off (flat xs))->
   ∃ a cap ws,u=.slice a xs.length cap/\xs.length<=cap/\aY g (flat xs) ws/\aR (flat xs)=true/\(∀ e∈xs,e.cells.length=sz)/\
   ∀ (w':World) (n:Nat),(∀ b o y,b<w.heap.size->w.cell? ⟨b,o,none⟩=some y->w'.cell? ⟨b,o,none⟩=some y)->n<=xs.length->(Builtin.firstCells sz n u).run C.P w'=.ok ⟨ws.take (n*sz)⟩ w':=by
  intro a cap hu hcap hsz hcase;rcases hcase with rfl|⟨sz',b,off,rfl,hs,ha,hr⟩
  ·refine⟨a,cap,[],hu,hcap,.nil,rfl,fun e he=>by simp at he,fun w' n _ hn=>?_⟩;have:n=0:=by simpa using hn
   subst this;rw[hu];cases a with
   |none=>simp[Builtin.firstCells]
   |some a=>simp[Builtin.firstCells,loadCells,loadCellsFrom]
  ·by_cases hne:xs=[]
   ·subst hne;refine⟨_,cap,[],hu,hcap,.nil,rfl,fun e he=>by simp at he,fun w' n _ hn=>?_⟩;have:n=0:=by simpa using hn
    subst this;rw[hu];simp[Builtin.firstCells,loadCells,loadCellsFrom]
   ·have:=oH hsz hs hne;subst this;obtain⟨ws,hv,hF⟩:=hr.vals;refine⟨_,cap,ws,hu,hcap,hv,ha,hs,fun w' n hw hn=>?_⟩;rw[hu];refine jP rfl ?_ fun i y hi=>hw _ _ _ (s.frz_lt (hF i y hi)) (s.frz _ _ _ (hF i y hi))
    rw[<- hv.length,dJ hs];exact Nat.mul_le_mul_right _ hn
 cases x<;>first|(cases e;done)|skip
 case nl=>
  cases e;refine⟨none,0,[],hx.nils_inv,e_ _,.nil,rfl,fun e he=>by simp at he,fun w' n _ hn=>?_⟩;rw[hx.nils_inv];simp[Builtin.firstCells]
 case ls es=>
  obtain⟨hc,e⟩:=aN (c:=ew sz es) e;cases e;obtain⟨a,cap,hu,hcap,hcase⟩:=hx.lst_inv;exact fin a cap hu hcap hc hcase
 case clip es=>
  obtain⟨hc,e⟩:=aN (c:=ew sz es) e;cases e;obtain⟨a,hu,hcase⟩:=hx.clip_inv;exact fin a _ hu (e_ _) hc hcase
 case row k gn sz' off m=>
  obtain⟨hc,e⟩:=aN (c:=Nat.beq sz' sz) e;have hc:=beq_eq hc;subst hc;obtain⟨r,hr,e⟩:=aA e;rw[fa]at e;obtain⟨l,a,hl,hs,hle,hu,ha⟩:=hx.row_inv;obtain⟨r1,r2,r3,r4⟩:=mF s hl hr;obtain⟨q1,q2,us,t',q3,q4,q5,q6,q7,q8,q9⟩:=r4;have hoff:Nat.mul off sz'=off*sz':=rfl;rw[hoff]at e;have ch:=jX e (da q7 _);have hm:xs.length=m:=ch.len;have hcle:=ch.le;rcases ha with rfl|⟨rfl,_⟩
  ·refine⟨_,l.cap-off,(((us.toList.drop l.base).take r.2.1.length).drop (off*sz')).take (m*sz'),by rw[hm];exact hu,o_,?_,?_,ch.size,fun w' n hw hn=>?_⟩
   ·rw[ch.flat];exact(q6.drop _).take _
   ·rw[ch.flat];exact eR (da q7 _) _
   ·rw[hu];have hlen:(((us.toList.drop l.base).take r.2.1.length).drop (off*sz')).length=(r.2.1.drop (off*sz')).length:=by rw[<- (q6.drop (off*sz')).length]
    have hnm:n*sz'<=m*sz':=Nat.mul_le_mul_right _ o_;refine jP rfl ?_ fun i y hi=>?_
    ·rw[List.length_take,hlen];omega
    ·refine hw _ _ _ (Array.getElem?_eq_some_iff.1 q3).1 (td (cs:=r.2.1) (off:=off*sz') q3 i y ?_);rw[List.getElem?_take]at hi;split at hi
     ·exact hi
     ·cases hi
  ·have:xs=[]:=List.length_eq_zero_iff.1 hm;subst this;refine⟨a,l.cap-off,[],hu,Nat.zero_le _,.nil,rfl,ch.size,fun w' n _ hn=>?_⟩;have:n=0:=by simpa using hn
   subst this;rw[hu];cases a with
   |none=>simp[Builtin.firstCells]
   |some a=>simp[Builtin.firstCells,loadCells,loadCellsFrom]
theorem yK (n:Nat):∀ (r c:Nat),Builtin.growBy n r c<=max c (n+n / 4+193)
 |0,c=>Nat.le_max_left _ _
 |r+1,c=>by
  unfold Builtin.growBy;split
  ·exact Nat.le_max_left _ _
  ·have:=yK n r (c+(c+768) / 4);omega
theorem uc {need cap:Nat}(h:cap<need):Builtin.nextslicecap need cap<=2*need+1000:=by
 unfold Builtin.nextslicecap;split
 ·omega
 ·split
  ·omega
  ·have:=yK need 4 cap;omega
theorem acq {n m bytes:Nat}(e:need n m bytes=true):(2*(n+m)+1000)*bytes<=140737488355328/\n+m<=9223372036854775807:=by
 obtain⟨h1,h2⟩:=cR e;exact⟨eE h1,eE h2⟩
theorem zt (z:Array Value)(n:Nat):Builtin.zeroCells z n=(Array.range (n*z.size)).map fun i=>z[i % z.size]!:=rfl
end
