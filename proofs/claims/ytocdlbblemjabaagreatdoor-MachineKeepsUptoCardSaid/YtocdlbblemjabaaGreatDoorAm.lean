/- AbsGo: the walk of the machine: what a call hands back (no condition). -/
import Derived.Test.YtocdlbblemjabaaGreatDoorAl
namespace Go.AG
theorem Bg (f:AV->AV)(l:List AV):Th f l=l.map f:=by
 induction l with
 |nil=>rfl
 |cons a l ih=>show f a::Th f l=_;rw[ih];rfl
theorem wI (n:Nat)(h:AH)(base:Nat)(v:AV):frz (n+1) h base v=frz1 v h base (frz n h base):=rfl
theorem frzRow_cases (h:AH)(v:AV)(k gn sz off m:Nat)(f:AV->AV):mU h v k gn sz off m f=v∨
  ∃ agg cs fz es,h.get k=some (.row gn sz agg cs fz)/\chunk agg sz m (drp (Nat.mul off sz) cs)=some es/\mU h v k gn sz off m f=.ls (es.map f):=by
 unfold mU;cases e:h.get k with
 |none=>exact .inl rfl
 |some o=>
  cases o<;>first|exact .inl rfl|skip
  case row g1 sz1 agg cs fz=>
   show(cond (and (Nat.beq gn g1) (Nat.beq sz sz1)) _ v=v)∨_;cases hc:and (Nat.beq gn g1) (Nat.beq sz sz1) with
   |false=>exact .inl rfl
   |true=>
    obtain⟨h1,h2⟩:=cR hc;have h1:=beq_eq h1;have h2:=beq_eq h2;subst h1 h2;cases hk:chunk agg sz m (drp (Nat.mul off sz) cs) with
    |none=>exact .inl rfl
    |some es=>
     refine .inr ⟨agg,cs,fz,es,rfl,hk,?_⟩;show cond (and (Nat.beq gn gn) (Nat.beq sz sz)) (Option.casesOn (chunk agg sz m (drp (Nat.mul off sz) cs)) v fun es=>AV.ls (Th f es)) v=_;rw[hc,hk];exact congrArg AV.ls (Bg f es)
theorem ES (n:Nat)(h:AH)(base:Nat)(v:AV):(frz n h base v).isCell=v.isCell:=by
 cases n with
 |zero=>rfl
 |succ n=>
  rw[wI];cases v<;>first|rfl|skip
  case row k gn sz off m=>
   show AV.isCell (cond (Nat.ble base k) (mU h (.row k gn sz off m) k gn sz off m (frz n h base)) (.row k gn sz off m))=true;cases Nat.ble base k with
   |false=>rfl
   |true=>rcases frzRow_cases h (.row k gn sz off m) k gn sz off m (frz n h base) with e|⟨_,_,_,_,_,_,e⟩<;>(show AV.isCell (mU _ _ _ _ _ _ _ _)=true;rw[e];rfl)
theorem acX (n:Nat)(h:AH)(base:Nat)(v:AV):(frz n h base v).isAgg=v.isAgg:=by
 cases n with
 |zero=>rfl
 |succ n=>
  rw[wI];cases v<;>first|rfl|skip
  case row k gn sz off m=>
   show AV.isAgg (cond (Nat.ble base k) (mU h (.row k gn sz off m) k gn sz off m (frz n h base)) (.row k gn sz off m))=false;cases Nat.ble base k with
   |false=>rfl
   |true=>rcases frzRow_cases h (.row k gn sz off m) k gn sz off m (frz n h base) with e|⟨_,_,_,_,_,_,e⟩<;>(show AV.isAgg (mU _ _ _ _ _ _ _ _)=false;rw[e];rfl)
section
variable {C:Cx}{b:Frame}{K:KK}{g g':Gh}{U:Nat->Option (List AV)}{h h':AH}{w:World}{tm:Tm}{tmps:Array Value}
theorem aY.map {f:AV->AV}(hf:∀ v u,bA g v u->bA g' (f v) u):∀ {l:List AV} {us:List Value},aY g l us->aY g' (l.map f) us
 |_,_,.nil=>.nil
 |_,_,.cons h t=>.cons (hf _ _ h) (aY.map hf t)
theorem zQ {f:AV->AV}(hf:∀ v,(f v).isCell=v.isCell)(l:List AV):aR (l.map f)=aR l:=by
 induction l with
 |nil=>rfl
 |cons a l ih=>rw[List.map_cons,bX,bX,hf,ih]
theorem aY.split:∀ (a:List AV) {b:List AV} {us:List Value},aY g (a++b) us->∃ x y,us=x++y/\aY g a x/\aY g b y
 |[],b,us,h=>⟨[],us,rfl,.nil,h⟩
 |a::l,b,us,h=>by
  cases h with
  |cons h t=>obtain⟨x,y,rfl,h1,h2⟩:=aY.split l t;exact⟨_::x,y,rfl,.cons h h1,h2⟩
theorem EU {f:AV->AV}(hf:∀ v u,bA g v u->bA g' (f v) u)(hc:∀ v,(f v).isCell=v.isCell)(hg:∀ v,(f v).isAgg=v.isAgg):∀ {es:List AV} {ws:List Value},aR (flat es)=true->aY g (flat es) ws->
  aY g' (flat (es.map f)) ws/\aR (flat (es.map f))=true/\∀ e∈es,(f e).cells.length=e.cells.length
 |[],ws,_,h=>⟨by cases h;exact .nil,rfl,fun e he=>by simp at he⟩
 |e::es,ws,ha,h=>by
  rw[cw]at ha h;rw[eJ]at ha;simp only[Bool.and_eq_true]at ha;obtain⟨x,y,rfl,h1,h2⟩:=aY.split _ h;obtain⟨r1,r2,r3⟩:=EU hf hc hg (es:=es) ha.2 h2;have key:aY g' (f e).cells x/\aR (f e).cells=true/\(f e).cells.length=e.cells.length:=by
   cases hga:e.isAgg with
   |true=>
    have hga':=hg e;cases e<;>first|(cases hga;done)|skip
    case agg cs=>
     have h1:aY g cs x:=h1;have this:bA g' (f (.agg cs)) (.agg ⟨x⟩):=hf _ _ (bA.agg ha.1 h1);generalize f (.agg cs)=z at this hga';cases z<;>first|(cases hga';done)|skip
     case agg cs'=>
      obtain⟨us,h3,h4,h5⟩:=this.agg_inv;cases h5;exact⟨h4,h3,by show cs'.length=cs.length;rw[h4.length,h1.length]⟩
   |false=>
    have he:e.cells=[e]:=je hga;rw[he]at h1 ha;have hec:e.isCell=true:=by have:=ha.1;rw[bX]at this;simp at this;exact this.1
    have hfc:(f e).isCell=true:=by rw[hc];exact hec
    have hfa:(f e).isAgg=false:=by cases hq:f e<;>first|rfl|(rw[hq]at hfc;cases hfc)
    rw[je hfa,he];cases h1 with
    |cons h3 t=>
     cases t;exact⟨.cons (hf _ _ h3) .nil,by rw[bX,hfc];rfl,rfl⟩
  rw[List.map_cons,cw];refine⟨key.1.append r1,by rw[eJ,key.2.1,r2];rfl,fun e' he'=>?_⟩;cases he' with
  |head=>exact key.2.2
  |tail _ he'=>exact r3 e' he'
theorem Bl (s:Sim C g U h w)(base:Nat):∀ (n:Nat) {v:AV} {u:Value},bA g v u->bA (g.leave h base w) (frz n h base v) u
 |0,v,u,hv=>hv.mono (s.leave_ext base)
 |n+1,v,u,hv=>by
  have ih:∀ v u,bA g v u->bA (g.leave h base w) (frz n h base v) u:=fun v u=>Bl s base n
  rw[wI];cases v<;>first|exact hv.mono (s.leave_ext base)|skip
  case agg cs=>
   obtain⟨us,h1,h2,rfl⟩:=hv.agg_inv;show bA _ (.agg (Th (frz n h base) cs)) _;rw[Bg];exact .agg (by rw[zQ (ES n h base)];exact h1) (h2.map ih)
  case tup cs=>
   obtain⟨us,h2,rfl⟩:=hv.tup_inv;show bA _ (.tup (Th (frz n h base) cs)) _;rw[Bg];exact .tup (h2.map ih)
  case row k gn sz off m=>
   show bA _ (cond (Nat.ble base k) (mU h (.row k gn sz off m) k gn sz off m (frz n h base)) (.row k gn sz off m)) _;cases hb:Nat.ble base k with
   |false=>exact hv.mono (s.leave_ext base)
   |true=>
    have hb:=eE hb;show bA _ (mU h (.row k gn sz off m) k gn sz off m (frz n h base)) _;rcases frzRow_cases h (.row k gn sz off m) k gn sz off m (frz n h base) with e|⟨agg,cs,fz,es,hg,hch,e⟩
    ·rw[e];exact hv.mono (s.leave_ext base)
    ·rw[e];obtain⟨l,a,hl,hs,hle,hu,ha⟩:=hv.row_inv;obtain⟨l',r1,r2,q1,q2,us,t',q3,q4,q5,q6,q7,q8,q9⟩:=s.obj k _ hg (s.born hl);have r1:g.ρ k gn=some l':=r1;rw[hl]at r1;cases r1;rw[fa]at hch;have hoff:Nat.mul off sz=off*sz:=rfl;rw[hoff]at hch;have ch:=jX hch (da q7 _);have hm:es.length=m:=ch.len;have hfl:aY g (flat es) ((((us.toList.drop l.base).take cs.length).drop (off*sz)).take (m*sz)):=by rw[ch.flat];exact(q6.drop _).take _
     have hfa:aR (flat es)=true:=by rw[ch.flat];exact eR (da q7 _) _
     obtain⟨m1,m2,m3⟩:=EU ih (ES n h base) (acX n h base) hfa hfl;rcases ha with rfl|⟨rfl,_⟩
     ·rw[hu];refine .ls (sz:=sz) (fun e he=>?_) m2 (by rw[L_];exact hm.symm) (by rw[L_];omega) (eu.mk m1 fun i y hi=>?_)
      ·obtain⟨e',he',rfl⟩:=List.mem_map.1 he;rw[m3 e' he'];exact ch.size e' he'
      ·have hno:¬ Co g h base l.block:=by
        rintro(hlt|⟨k',o',l2,hk',hg',hl2,hbl⟩)
        ·omega
        exact s.sep k k' _ o' l l2 o_ hg hg' hl hl2 hbl.symm
       rw[Gh.leave_free hno];refine td (cs:=cs) (off:=off*sz) q3 i y ?_;rw[List.getElem?_take]at hi;split at hi
       ·exact hi
       ·cases hi
     ·have:es=[]:=List.length_eq_zero_iff.1 hm;subst this;rw[hu];exact .lst0
theorem Gn (r:bK)(l:List bK)(tm:Tm)(h:AH):hO (r::l) tm h=aD (Io r tm h) fun v=>aD (hO l tm h) fun vs=>some (v::vs):=rfl
theorem YL (s:Sim C g U h w)(ht:ep g tm tmps):∀ {l:List ResultVar} {al:List bK} {vs:List AV},hX (ZS C.T) l=some al->hO al tm h=some vs->
  ∃ us,(l.mapM (rdV tmps)).run C.P w=.ok us w/\aY g vs us
 |[],al,vs,e,q=>by cases e;cases q;exact⟨[],by simp,.nil⟩
 |r::l,al,vs,e,q=>by
  obtain⟨ar,al',h1,h2,rfl⟩:=bS e;rw[Gn]at q;obtain⟨v,q1,q⟩:=aA q;obtain⟨vs',q2,q⟩:=aA q;cases q;obtain⟨u,a1,a2⟩:=abW s ht h1 q1;obtain⟨us,b1,b2⟩:=YL s ht h2 q2;exact⟨u::us,by simp[List.mapM_cons,a1,b1],.cons a2 b2⟩
theorem uH (s:Sim C g U h w)(ht:ep g tm tmps){F:Func}{al:List bK}{vs:List AV}(e:hX (ZS C.T) F.results.toList=some al)(q:hO al tm h=some vs):
  ∃ u,(results F tmps).run C.P w=.ok u w/\bA g (one vs) u:=by
 obtain⟨us,h1,h2⟩:=YL s ht e q;have hr:(results F tmps).run C.P w=.ok (if h:(⟨us⟩:Array Value).size=1 then (⟨us⟩:Array Value)[0] else .tuple ⟨us⟩) w:=by
  have:results F tmps=(do let vs <- F.results.mapM (rdV tmps);pure (if h:vs.size=1 then vs[0] else .tuple vs)):=by
   unfold results;congr
  rw[this,Array.mapM_eq_mapM_toList];simp[h1]
 cases h2 with
 |nil=>exact⟨_,hr,.tup .nil⟩
 |cons a t=>cases t with
  |nil=>exact⟨_,hr,a⟩
  |cons b t=>exact⟨_,hr,.tup (.cons a (.cons b t))⟩
end
structure Dk (C:Cx)(E:Env):Prop where
 ok:∀ f fn,E.cf f=some fn->∃ F,C.P.funcs[f]?=some F/\afB C.P C.T C.kw F=some fn/\(F.name == "runtime.NumGoroutine")=false
section
variable {C:Cx}{E:Env}{b:Frame}{K:KK}{g g':Gh}{U:Nat->Option (List AV)}{h h0 h':AH}{w:World}{tm:Tm}{tmps:Array Value}{todo:List Item}{ds:List Deferred}{md:FrameMode}
theorem jI (p:Bool)(h:AH):(lowered p h).z=h.z:=by cases p<;>rfl
theorem Sim.lower (s:Sim C g U h w)(n:Nat):Sim C g U ⟨h.z,n,h.objs⟩ w:=
 ⟨s.frz,s.obj,s.lt,s.unb,s.rlt,s.sep,s.old,s.sz,s.tape,s.os,s.output,s.ini⟩
theorem Sim.lowered (s:Sim C g U h w)(p:Bool):Sim C g U (lowered p h) w:=by
 cases p with
 |false=>exact s
 |true=>exact s.lower _
theorem EE {p:Bool}(l:Low (lowered p h0) h):Low h0 (lowBack p h0 h):=by
 cases p with
 |false=>exact l
 |true=>
  refine⟨l.z,?_,fun k h1 h2=>?_⟩
  ·show rZ h.low h0.low<=h0.low;rw[sE];exact Nat.min_le_right _ _
  ·have h2:k<rZ h.low h0.low:=h2;rw[sE]at h2;exact l.get k h1 (Nat.lt_of_lt_of_le h2 (Nat.min_le_left _ _))
theorem Sim.lowBack (s:Sim C g U h w)(p:Bool)(h0:AH):Sim C g U (lowBack p h0 h) w:=by
 cases p with
 |false=>exact s
 |true=>exact s.lower _
theorem acZ {call:aQ}(hcall:cK C call){F:Func}{fn:xr}{p:Bool}{fr:AF}{m:Md}{nt:Nat}{out:dH}{rc':RC}{g0:Gh}{U0:Nat->Option (List AV)}{kind:CallKind}(hk:b.kind=kind)
  (hF:C.P.funcs[b.fn]?=some F) (hres:hX (ZS C.T) F.results.toList=some fn.results) (q:xg call p h0 fn fr m h=some (out,rc',h')) (s0:∀ k o,h0.get k=some o->k<h0.z)
  (x0:Ext g0 g) (u0:nX h0.z U0 U) (l0:Low (lowered p h0) h) (s:Sim C g U h w) (f:FR g b K nt fr tmps ds) (hm:zZ g m md) (hn:xM todo) (hK:K.cs=K.c0::K.rest) :
  ∃ g' U' w',Ext g0 g'/\nX h0.z U0 U'/\Sim C g' U' h' w'/\Low h0 h'/\ub g' K kind rc'/\xj C.P K kind rc' (lone (stM b tmps ds todo md) (ei K fr.cx.rc) w) g' w' out:=by
 subst hk;obtain⟨⟨m1,h1⟩,q1,q⟩:=aA (show aD (kJ fr.cx.dfs call m h) _=_ from q);obtain⟨g1,U1,w1,md1,x1,u1,s1,l1,hm1,st1⟩:=rT (b:=b) (tmps:=tmps) (todo:=todo) (cs:=ei K fr.cx.rc) hcall _ q1 s f.hd hm;have lall:Low (lowered p h0) h1:=l0.trans l1;have uall:nX h0.z U0 U1:=u0.trans u1 (by have:=l0.z;rw[jI]at this;exact this);have f1:=f.mono x1;cases hm1 with
 |pan hv=>
  cases q;refine⟨g1,U1,w1,x0.trans x1,uall,s1.lowBack p h0,EE lall,f1.hr,_,hv,fun hkn=>?_⟩;have hrc:=f1.hr;rw[hkn]at hrc;have:=mf hrc;rw[this]at st1 ⊢;have st1:Steps C.P _ (lone _ K.cs w1):=st1;rw[hK]at st1;exact st1.trans (.one (DB hn))
 |ret=>
  obtain⟨vs,q2,q⟩:=aA (show aD (hO fn.results fr.tm h1) _=_ from q);obtain⟨u,hr,hv⟩:=uH s1 f1.ht hres q2;have st2:=st1.trans (.one (QQ hF hr f1.hr hK));have same:some (dH.ret (one vs),fr.cx.rc,lowBack p h0 h1)=some (out,rc',h')->∃ g' U' w',Ext g0 g'/\nX h0.z U0 U'/\Sim C g' U' h' w'/\Low h0 h'/\ub g' K b.kind rc'/\xj C.P K b.kind rc' (lone (stM b tmps ds todo md) (ei K fr.cx.rc) w) g' w' out:=by
   intro q;cases q;exact⟨g1,U1,w1,x0.trans x1,uall,s1.lowBack p h0,EE lall,f1.hr,u,hv,st2⟩
  cases p with
  |false=>exact same q
  |true=>
   have q:cond (Nat.ble h0.z h1.low) (some (dH.ret (frz 4 h1 h0.z (one vs)),fr.cx.rc,(⟨h1.z,h0.low,h0.objs⟩:AH))) (some (dH.ret (one vs),fr.cx.rc,(⟨h1.z,rZ h1.low h0.low,h1.objs⟩:AH)))=some (out,rc',h'):=q;cases hc:Nat.ble h0.z h1.low with
   |false=>rw[hc]at q;exact same q
   |true=>
    rw[hc]at q;have hc:=eE hc;cases q;have hsame:∀ k,k<h0.z->h1.get k=h0.get k:=fun k hk=>lall.get k hk (Nat.lt_of_lt_of_le hk hc)
    have hnx:h0.z<=h1.z:=lall.z;refine⟨g1.leave h1 h0.z w1,_,w1,(x0.trans x1).trans (s1.leave_ext _),?_,s1.leave hnx h0.low s0 hsame,⟨hnx,e_ _,fun _ _ _=>rfl⟩,f1.hr.mono (s1.leave_ext _),u,Bl s1 _ 4 hv,st2⟩;exact⟨fun k hk=>by show(if k<h0.z then U1 k else none)=U0 k;rw[P_ hk];exact uall.kw k hk⟩
theorem yg {as:List AV}{us:List Value}(h:aY g as us)(n:Nat):ep g (cT as) ((⟨us⟩:Array Value)++Array.replicate n undef):=by
 intro i;have e1:nth (cT as) i=(as[i]?).getD (.tup []):=by
  unfold nth cT;rw[Tr.get_ofList];cases as[i]?<;>rfl
 rw[e1,Array.getD_eq_getD_getElem?];by_cases hi:i<us.length
 ·have e2:((⟨us⟩:Array Value)++Array.replicate n undef)[i]?=us[i]?:=by
   rw[Array.getElem?_append_left (by simpa using hi)];simp
  rw[e2];have hl:=h.length;obtain⟨y,hy,hr⟩:=h.get (a_ (show i<as.length by omega));rw[hy,a_ (show i<as.length by omega)];exact hr
 ·have hl:=h.length;rw[List.getElem?_eq_none o_];have e2:(((⟨us⟩:Array Value)++Array.replicate n undef)[i]?).getD undef=undef:=by
   rw[Array.getElem?_append_right (by simpa using hi)];simp only[Array.getElem?_replicate];split<;>rfl
  rw[e2];exact .tup .nil
theorem aiA {call:aQ}(hcall:cK C call)(hdraw:BK C call)(hE:Dk C E){n:Nat}{f:FuncId}{as:List AV}{us:List Value}{rc rc':RC}{out:dH}{kind:CallKind}
  (q:lE E call n f as rc h=some (out,rc',h')) (s:Sim C g U h w) (ha:aY g as us) (hr:ub g K kind rc) (hK:K.cs=K.c0::K.rest) :
  (callFunc f ⟨us⟩).run C.P w=.ok (.enter f ⟨us⟩) w/\∃ g' U' w',Ext g g'/\nX h.z U U'/\Sim C g' U' h' w'/\Low h h'/\ub g' K kind rc'/\
   xj C.P K kind rc' (lone (Frame.enter C.P f ⟨us⟩ kind) (ei K rc) w) g' w' out:=by
 obtain⟨fn,q1,q⟩:=aA (show aD (E.cf f) _=_ from q);obtain⟨F,hF,hc,hname⟩:=hE.ok f fn q1;obtain⟨body,hb,hc⟩:=aA (show aD F.body _=_ from hc);obtain⟨ac,hac,hc⟩:=aA (show aD (jA body C.P C.T C.kw F.ntmps) _=_ from hc);obtain⟨rs,hrs,hc⟩:=aA hc;cases hc;have hcf:(callFunc f ⟨us⟩).run C.P w=.ok (.enter f ⟨us⟩) w:=by
  have hn2:¬ F.name = "runtime.NumGoroutine" :=by intro hq;rw[hq]at hname;simp at hname
  simp[callFunc,hF,hn2,hb]
 refine⟨hcf,?_⟩;obtain⟨⟨e,fr',h1⟩,q2,q⟩:=aA q;have hent:Frame.enter C.P f ⟨us⟩ kind=stF (Frame.enter C.P f ⟨us⟩ kind) ((⟨us⟩:Array Value)++Array.replicate (F.ntmps-us.length) undef) [] [.code body]:=by
  simp[Frame.enter,stF,hF,hb]
 have hfr:FR g (Frame.enter C.P f ⟨us⟩ kind) K F.ntmps ⟨cT as,⟨[],rc,none,f⟩⟩ ((⟨us⟩:Array Value)++Array.replicate (F.ntmps-us.length) undef) []:=by
  refine⟨yg ha _,.nil,hr,?_,rfl,.none⟩;simp;omega
 have G:=rU hcall hdraw n body ac F.ntmps hac (k:=[]) q2 (s.lowered _) hfr;rw[<- hent]at G;obtain⟨g1,U1,w1,tmps1,ds1,x1,u1,s1,l1,f1,o1⟩:=G;rw[jI]at u1;have hfn:C.P.funcs[(Frame.enter C.P f ⟨us⟩ kind).fn]?=some F:=hF;have go:∀ (m:Md) (md:FrameMode) (todo:List Item),zZ g1 m md->xM todo->xg call (E.pure f) h ⟨F.ntmps,rs,ac⟩ fr' m h1=some (out,rc',h')->
   Steps C.P (lone (Frame.enter C.P f ⟨us⟩ kind) (ei K rc) w) (lone (stM (Frame.enter C.P f ⟨us⟩ kind) tmps1 ds1 todo md) (ei K fr'.cx.rc) w1)->
   ∃ g' U' w',Ext g g'/\nX h.z U U'/\Sim C g' U' h' w'/\Low h h'/\ub g' K kind rc'/\xj C.P K kind rc' (lone (Frame.enter C.P f ⟨us⟩ kind) (ei K rc) w) g' w' out:=by
  intro m md todo hm hn q st;obtain⟨g2,U2,w2,a1,a2,a3,a4,a5,a6⟩:=acZ (b:=Frame.enter C.P f ⟨us⟩ kind) hcall rfl hfn hrs q s.lt x1 u1 l1 s1 f1 hm hn hK;refine⟨g2,U2,w2,a1,a2,a3,a4,a5,?_⟩;cases out with
  |ret v=>obtain⟨u,b1,b2⟩:=a6;exact⟨u,b1,st.trans b2⟩
  |pan v=>obtain⟨u,b1,b2⟩:=a6;exact⟨u,b1,fun hk=>st.trans (b2 hk)⟩
 cases e with
 |exit id=>cases q
 |normal=>exact go .returning .returning [] .ret trivial q (o1.trans (.one (DC rfl)))
 |ret=>
  obtain⟨k1,o1⟩:=o1;exact go .returning .returning (.code .ret::k1) .ret trivial q (o1.trans (.one (tD rfl)))
 |panic v=>
  obtain⟨k1,pv,hn,hv,o1⟩:=o1;exact go (.panicking v) _ k1 (.pan hv) hn q o1
end
section
variable {C:Cx}{E:Env}{b:Frame}{K:KK}{g g':Gh}{U:Nat->Option (List AV)}{h h0 h':AH}{w w1:World}{tm:Tm}{tmps:Array Value}{k:List Item}{ds:List Deferred}{cs:List Frame}{c:Frame}{l:Nat}{v:Value}
theorem BS {P:Program}(hro:b.roundOf=some l)(hk:b.kind=.normal)(hr:(Instr.endRound l none).run P w=.ok v w1):
  step P (lone (stF b tmps ds []) (c::cs) w)=.next (lone (c.finish v) cs w1):=
 step_lone_go (by simp[stepG,stepG.exec,stF,hro,hr,doReturn,hk])
theorem BR {P:Program}(hro:b.roundOf=some l)(hk:b.kind=.normal)(hr:(Instr.endRound l (some .ret)).run P w=.ok v w1):
  step P (lone (stF b tmps ds (.code .ret::k)) (c::cs) w)=.next (lone (c.finish v) cs w1):=
 step_lone_go (by simp[stepG,stepG.exec,stF,hro,hr,doReturn,hk])
theorem zu {P:Program}{id:Nat}(hro:b.roundOf=some l)(hk:b.kind=.normal)(he:exitTo id k=none)(hr:(Instr.endRound l (some (.exit id))).run P w=.ok v w1):
  step P (lone (stF b tmps ds (.code (.exit id)::k)) (c::cs) w)=.next (lone (c.finish v) cs w1):=
 step_lone_go (by simp[stepG,stepG.exec,stF,hro,hr,doReturn,hk,he])
theorem Ux {P:Program}(hro:b.roundOf=some l)(hr:(Instr.beginRound l).run P w=.ok () w1):
  step P (lone (stF b tmps ds (.beginRound::k)) cs w)=.next (lone (stF b tmps ds k) cs w1):=
 step_lone_go (by simp[stepG,stepG.exec,stF,hro,stepG.apply,hr,Frame.finish])
theorem Cj (p:Nat)(ps:List Nat)(a:AV)(as:List AV)(tm:Tm):oa (p::ps) (a::as) tm=oa ps as (tm.put p a):=rfl
theorem uI {nt:Nat}: ∀ (ps:List Nat) {as:List AV} {us:List Value} {tm:Tm} {tmps:Array Value},ps.length=as.length->aY g as us->mV nt ps=true->nt<=tmps.size->ep g tm tmps->
  ep g (oa ps as tm) ((ps.zip us).foldl (fun tmps (p:Nat×Value)=>tmps.setIfInBounds p.1 p.2) tmps)/\nt<=((ps.zip us).foldl (fun tmps (p:Nat×Value)=>tmps.setIfInBounds p.1 p.2) tmps).size
 |[],as,us,tm,tmps,hl,ha,hb,hn,ht=>by simp;exact⟨ht,hn⟩
 |p::ps,as,us,tm,tmps,hl,ha,hb,hn,ht=>by
  cases ha with
  |nil=>simp at hl
  |@cons a u as us h t=>
   obtain⟨h1,h2⟩:=cR (show and (Nat.blt p nt) (mV nt ps)=true from hb);rw[Cj];have ht':ep g (tm.put p a) (tmps.setIfInBounds p u):=ep.put (d:=some p) ht h1 hn h;have:=uI ps (as:=as) (us:=us) (tm:=tm.put p a) (tmps:=tmps.setIfInBounds p u) (by simpa using hl) t h2 (by simpa using hn) ht';simpa using this
theorem Re {L:Loop}{us:List Value}(e:w.heap[l]?=some (.loop L))(hn:us.length=L.params.size):
  (Instr.yield l ⟨us⟩).run C.P w=.ok (.round l L.fn ((L.params.toList.zip us).foldl (fun tmps (p:Nat×Value)=>tmps.setIfInBounds p.1 p.2) L.tmps) L.assign L.body) w:=by
 have e1:=jl (C:=C) e;have e2:(L.params.zip (⟨us⟩:Array Value)).foldl (fun tmps (p:Nat×Value)=>tmps.setIfInBounds p.1 p.2) L.tmps=(L.params.toList.zip us).foldl (fun tmps (p:Nat×Value)=>tmps.setIfInBounds p.1 p.2) L.tmps:=by
  rw[<- Array.foldl_toList];simp
 have hsz:(L.params.zip (⟨us⟩:Array Value)).size=L.params.size:=by simp[hn]
 simp[Instr.yield,e1,hn];rw[<- e2,hsz]
theorem Bi (s:Sim C g U h w){j:Nat}{lc:Loc}{st:LoopState}{pend:Option AEx}{tm0:Tm}{ps:List Nat}{as bd:aF}{f:FuncId}(hl:g.ρ j 0=some lc)(hg:h.get j=some (.loop st pend tm0 ps as bd f)):
  ∃ L,w.heap[lc.block]?=some (.loop L)/\Iz C g st pend tm0 ps as bd f L:=by
 obtain⟨lc',h1,_,L0,h2,hL⟩:=s.obj j _ hg (s.born hl);have h1:g.ρ j 0=some lc':=h1;rw[hl]at h1;cases h1;exact⟨L0,h2,hL⟩
theorem EF (s:Sim C g U h w){j:Nat}{lc:Loc}{st st':LoopState}{pend pend':Option AEx}{tm0:Tm}{ps:List Nat}{as bd:aF}{f:FuncId}{L:Loop}{pd:Option Code}(hl:g.ρ j 0=some lc)
  (hg:h.get j=some (.loop st pend tm0 ps as bd f)) (e:w.heap[lc.block]?=some (.loop L)) (hL:Iz C g st pend tm0 ps as bd f L) (hp:Ua pend' pd) :
  Sim C g U (h.set j (.loop st' pend' tm0 ps as bd f)) (setBlk w lc.block (.loop {L with state:=st',pending:=pd})):=by
 have hlt:lc.block<w.heap.size:=(Array.getElem?_eq_some_iff.1 e).1;refine s.put hg (s.born hl) hl rfl ⟨_,dZ hlt,?_⟩ (fun i v x=>?_)
 ·exact⟨rfl,hp,hL.htm,hL.hps,hL.hfn,hL.hcode⟩
 ·have:=s.frz _ _ _ x;unfold World.cell? at this;simp[e]at this
theorem Rh {L:Loop}(e:w.heap[l]?=some (.loop L))(hs:L.state=.ready):(Instr.beginRound l).run C.P w=.ok () (setBlk w l (.loop {L with state:=.busy})):=by
 have e1:=jl (C:=C) e;have e2:=iY (C:=C) (ob':=.loop {L with state:=.busy}) e (by intros;simp);simp[Instr.beginRound,e1,e2,hs]
theorem zB {L:Loop}(e:w.heap[l]?=some (.loop L))(jump:Option Code):
  (Instr.endRound l jump).run C.P w=.ok (.bool jump.isNone) (setBlk w l (.loop {L with state:=if jump.isNone then .ready else .done,pending:=jump})):=by
 have e1:=jl (C:=C) e;have e2:=iY (C:=C) (ob':=.loop {L with state:=if jump.isNone then .ready else .done,pending:=jump}) e (by intros;simp);cases jump<;>(simp at e2;simp[Instr.endRound,e1,e2])
theorem BL {j:Nat}{st':LoopState}{pend':Option AEx}(q:mO h j st' pend'=some h'):∃ st pend tm0 ps as bd f,h.get j=some (.loop st pend tm0 ps as bd f)/\h'=h.set j (.loop st' pend' tm0 ps as bd f):=by
 obtain⟨o,hg,q⟩:=aA (show aD (h.get j) _=_ from q);cases o with
 |loop st pend tm0 ps as bd f=>cases q;exact⟨_,_,_,_,_,_,_,hg,rfl⟩
 |_=>cases q
theorem abk {call:aQ}(hcall:cK C call)(hdraw:BK C call){n j:Nat}{lc:Loc}{args:List AV}{us:List Value}{out:dH}{rc':RC}(q:zh call n j args h=some (out,rc',h'))
  (s:Sim C g U h w) (hl:g.ρ j 0=some lc) (ha:aY g args us) (hK:K.cs=K.c0::K.rest) :
  ∃ ff ts x y,(Instr.yield lc.block ⟨us⟩).run C.P w=.ok (.round lc.block ff ts x y) w/\∃ g' U' w',Ext g g'/\nX h.z U U'/\Sim C g' U' h' w'/\Low h h'/\ub g' K .normal rc'/\
   xj C.P K .normal rc' (lone (Frame.round lc.block ff ts x y .normal) (ei K .no) w) g' w' out:=by
 obtain⟨o,hg,q⟩:=aA (show aD (h.get j) _=_ from q);cases o with
 |loop st pend tm0 ps as bd f=>
  obtain⟨hlen,q⟩:=aN (show cond (Nat.beq (len args) (len ps)) (Aa call n j bd (evCode as call n ⟨oa ps args tm0,⟨[],.no,some j,f⟩⟩ h)) none=some (out,rc',h') from q);have hlen:=beq_eq hlen;rw[bH,bH]at hlen;obtain⟨L,e,hL⟩:=Bi s hl hg;obtain⟨nt,hnt,hca,hcb,hbk⟩:=hL.hcode;have hps:=hL.hps;have hul:us.length=L.params.size:=by rw[<- ha.length,hlen,<- hps];simp
  obtain⟨ht,hn⟩:=uI (nt:=nt) ps (as:=args) (us:=us) (tm:=tm0) (tmps:=L.tmps) hlen.symm ha hbk hnt hL.htm;refine⟨_,_,_,_,Re e hul,?_⟩;rw[hps];generalize (ps.zip us).foldl (fun tmps (p:Nat×Value)=>tmps.setIfInBounds p.1 p.2) L.tmps=ts at ht hn;obtain⟨b,hb⟩:∃ b,b=Frame.round lc.block L.fn ts L.assign L.body .normal:=⟨_,rfl⟩
  have hst:Frame.round lc.block L.fn ts L.assign L.body .normal=stF b ts [] (.code L.assign :: [.beginRound,.code L.body]):=by subst hb;rfl
  have hro:b.roundOf=some lc.block:=by subst hb;rfl
  have hkd:b.kind=.normal:=by subst hb;rfl
  rw[hst];have hfr:FR g b K nt ⟨oa ps args tm0,⟨[],.no,some j,f⟩⟩ ts []:=⟨ht,.nil,hkd,hn,by subst hb;exact hL.hfn.symm,by rw[hro];exact .some hl⟩;obtain⟨⟨e1,fr1,h1⟩,q1,q⟩:=aA (show aD (evCode as call n ⟨oa ps args tm0,⟨[],.no,some j,f⟩⟩ h) _=_ from q);obtain⟨hnorm,q⟩:=aN (show cond (EN e1) _ none=_ from q);cases e1<;>first|(cases hnorm;done)|skip
  obtain⟨g1,U1,w1,t1,d1,x1,u1,s1,l1,f1,o1⟩:=rU hcall hdraw n L.assign as nt hca (k:=[.beginRound,.code L.body]) q1 s hfr;obtain⟨h2,q2,q⟩:=aA q;obtain⟨o2,hg2,q2⟩:=aA (show aD (h1.get j) _=_ from q2);cases o2 with
  |loop st2 pend2 tm2 ps2 as2 bd2 f2=>
   obtain⟨hrd,q2⟩:=aN (show cond (OP st2) (some (h1.set j (.loop .busy pend2 tm2 ps2 as2 bd2 f2))) none=some h2 from q2);cases q2;have hl1:=x1.ρ _ _ _ hl;obtain⟨L2,e2,hL2⟩:=Bi s1 hl1 hg2;have hst2:L2.state=.ready:=by rw[hL2.hst];cases st2<;>first|rfl|cases hrd
   have s2:Sim C g1 U1 (h1.set j (.loop .busy pend2 tm2 ps2 as2 bd2 f2)) (setBlk w1 lc.block (.loop {L2 with state:=.busy})):=EF s1 hl1 hg2 e2 hL2 hL2.hpend;have o2:=Steps.trans (show Steps C.P _ _ from o1) (.one (Ux hro (Rh (C:=C) e2 hst2)));obtain⟨⟨e3,fr3,h3⟩,q3,q⟩:=aA q;obtain⟨hnil,q⟩:=aN (show cond (adJ fr3.cx.dfs) (ZU e3 j h3) none=_ from q);obtain⟨g3,U3,w3,t3,d3,x3,u3,s3,l3,f3,o3⟩:=rU hcall hdraw n L.body bd nt hcb (k:=[]) q3 s2 f1;have xx:=x1.trans x3;have ll:Low h h3:=(l1.trans (Low.set _ _ _)).trans l3;have uu:nX h.z U U3:=u1.trans u3 (by rw[AH.alb];exact l1.z);have hl3:=xx.ρ _ _ _ hl;have hrc3:fr3.cx.rc=.no:=mf (by have:=f3.hr;rw[hkd]at this;exact this);have fin:∀ (jump:Option Code) (pd:Option AEx),Ua pd jump->ug jump.isNone (mO h3 j (if jump.isNone then .ready else .done) pd)=some (out,rc',h')->
     (∀ v w',(Instr.endRound lc.block jump).run C.P w3=.ok v w'->Steps C.P (lone (stF b ts [] (.code L.assign :: [.beginRound,.code L.body])) (ei K .no) w) (lone (K.c0.finish v) K.rest w'))->
     ∃ g' U' w',Ext g g'/\nX h.z U U'/\Sim C g' U' h' w'/\Low h h'/\ub g' K .normal rc'/\xj C.P K .normal rc' (lone (stF b ts [] (.code L.assign :: [.beginRound,.code L.body])) (ei K .no) w) g' w' out:=by
    intro jump pd hp q hs;obtain⟨h4,q4,q⟩:=aA (show aD (mO h3 j (if jump.isNone then .ready else .done) pd) _=_ from q);cases q;obtain⟨st4,pend4,tm4,ps4,as4,bd4,f4,hg4,rfl⟩:=BL q4;obtain⟨L4,e4,hL4⟩:=Bi s3 hl3 hg4;have hrun:=zB (C:=C) e4 jump;exact⟨g3,U3,_,xx,uu,EF s3 hl3 hg4 e4 hL4 hp,ll.trans (Low.set _ _ _),rfl,_,.bool _,hs _ _ hrun⟩
   cases e3 with
   |normal=>
    refine fin none none .none q fun v w' hr=>?_
    have o3:Steps C.P _ (lone (stF b t3 d3 []) (ei K fr3.cx.rc) w3):=o3;rw[hrc3,show ei K .no=K.c0::K.rest from hK]at o3;exact o2.trans (o3.trans (.one (BS hro hkd hr)))
   |ret=>
    refine fin (some .ret) (some .ret) .ret q fun v w' hr=>?_
    obtain⟨k1,o3⟩:=o3;rw[hrc3,show ei K .no=K.c0::K.rest from hK]at o3;exact o2.trans (o3.trans (.one (BR hro hkd hr)))
   |exit id=>
    refine fin (some (.exit id)) (some (.exit id)) (.exit id) q fun v w' hr=>?_
    obtain⟨k1,hk1,o3⟩:=o3;rw[hrc3,show ei K .no=K.c0::K.rest from hK]at o3;exact o2.trans (o3.trans (.one (zu hro hkd hk1 hr)))
   |panic v=>
    cases q;obtain⟨k1,pv,hnc,hv,o3⟩:=o3;rw[hrc3,show ei K .no=K.c0::K.rest from hK]at o3;have hds:d3=[]:=by
     have hd:=f3.hd;cases hdf:fr3.cx.dfs with
     |nil=>rw[hdf]at hd;cases hd;rfl
     |cons a t=>rw[hdf]at hnil;cases hnil
    subst hds;refine⟨g3,U3,w3,xx,uu,s3,ll,rfl,pv,hv,fun _=>?_⟩;exact o2.trans (o3.trans (.one (DB hnc)))
  |_=>cases q2
 |_=>cases q
end
