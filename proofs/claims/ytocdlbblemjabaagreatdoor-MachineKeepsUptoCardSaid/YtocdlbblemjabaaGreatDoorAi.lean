/- AbsGo: one operation of the evaluator's is one of the model's: append (no condition). -/
import Derived.Test.YtocdlbblemjabaaGreatDoorAh
import Derived.Laws.AppendOwn
namespace Go.AG
section
variable {C:Cx}{g:Gh}{U:Nat->Option (List AV)}{h h':AH}{w:World}{tm:Tm}{tmps:Array Value}{v:AV}
structure ahH (C:Cx)(tys:Array TypeId)(el:TypeId)(sz bytes:Nat)(zv:Value):Prop where
 t0:∃ t,tys[0]?=some t/\und C.T t=some (.slice el)
 t1:∃ t e,tys[1]?=some t/\und C.T t=some (.slice e)
 hsz:szT C.T el=some sz
 info:∃ i,C.T.get el=some i/\i.bytes=bytes/\i.zero=some zv
 zlen:zv.cells.size=sz
 pos:0<sz
theorem gv {tys:Array TypeId}{ty el:TypeId}{sz bytes:Nat}{zv:Value}(A:ahH C tys el sz bytes zv){a:Option Addr}{n cap:Nat}{x:Value}(hn:n<=cap){b:Option Addr}{c:Nat}
  (hx:x=.slice b 0 c) (hf:(Builtin.firstCells sz 0 x).run C.P w=.ok #[] w):(Builtin.append_ tys ty #[.slice a n cap,x]).run C.P w=.ok (.slice a n cap) w:=by
 obtain⟨t,ht,hd⟩:=A.t0;obtain⟨t',e',ht',hd'⟩:=A.t1;subst hx;cases a with
 |none=>simp[Builtin.append_,ht,ht',bj hd,bj hd',bY A.hsz,Builtin.lenOf,hn,hf]
 |some a=>simp[Builtin.append_,ht,ht',bj hd,bj hd',bY A.hsz,Builtin.lenOf,hn,hf,storeCells]
theorem xy {tys:Array TypeId}{ty el:TypeId}{sz bytes:Nat}{zv:Value}(A:ahH C tys el sz bytes zv){a:Addr}{n m cap:Nat}{x:Value}(hn:n+m<=cap){b:Option Addr}{c:Nat}
  (hx:x=.slice b m c) {ws:List Value} (hf:(Builtin.firstCells sz m x).run C.P w=.ok ⟨ws⟩ w) {w':World} (hst:(storeCells (a.add (n*sz)) ws).run C.P w=.ok () w') :
  (Builtin.append_ tys ty #[.slice (some a) n cap,x]).run C.P w=.ok (.slice (some a) (n+m) cap) w':=by
 obtain⟨t,ht,hd⟩:=A.t0;obtain⟨t',e',ht',hd'⟩:=A.t1;subst hx;simp[Builtin.append_,ht,ht',bj hd,bj hd',bY A.hsz,Builtin.lenOf,hn,hf,hst]
theorem jQ {tys:Array TypeId}{ty el:TypeId}{sz bytes:Nat}{zv:Value}(A:ahH C tys el sz bytes zv){a:Option Addr}{n m cap:Nat}{x:Value}(hn:cap<n+m){b:Option Addr}{c:Nat}
  (hx:x=.slice b m c) {os ws:List Value} (ho:(Builtin.firstCells sz n (.slice a n cap)).run C.P w.drew=.ok ⟨os⟩ w.drew) (hf:(Builtin.firstCells sz m x).run C.P w.drew=.ok ⟨ws⟩ w.drew)
  (hneed:need n m bytes=true) :
  (Builtin.append_ tys ty #[.slice a n cap,x]).run C.P w=.ok (.slice (some ⟨w.heap.size,0,none⟩) (n+m) (grownCap w (n+m) cap el))
   (w.drew.alloc (.cells (⟨os⟩++⟨ws⟩++Builtin.zeroCells zv.cells (grownCap w (n+m) cap el-(n+m))) el)):=by
 obtain⟨t,ht,hd⟩:=A.t0;obtain⟨t',e',ht',hd'⟩:=A.t1;obtain⟨i,hi,hby,hz⟩:=A.info;obtain⟨n1,n2⟩:=acq hneed;subst hx;have hn':¬ (n+m<=cap):=o_;have hm:IntKind.i64.max=9223372036854775807:=rfl;have h63:¬ (9223372036854775807<((n:Int)+(m:Int))):=o_;have hcap:=AG.uc hn;have h48:¬ (281474976710656<Builtin.nextslicecap (n+m) cap*i.bytes):=by
  have:Builtin.nextslicecap (n+m) cap*i.bytes<=(2*(n+m)+1000)*i.bytes:=Nat.mul_le_mul_right _ hcap;rw[hby]at this ⊢;omega
 simp[Builtin.append_,ht,ht',bj hd,bj hd',bY A.hsz,im hi,cZ hi hz,Builtin.lenOf,hn',hm,h63,h48,Question.forced,ho,hf,newRow,grownCap];congr 2;apply Array.ext';simp[List.append_assoc]
theorem ER (s:Sim C g U h w){el:TypeId}{sz n m cap:Nat}{agg:Bool}{zv:Value}{cs:List AV}{os ws:List Value}(hp:0<sz)(hz:zv.cells.size=sz)
  (hlo:os.length+ws.length=(n+m)*sz) (hv:aY g cs (os++ws)) (ha:aR cs=true) :
  ∃ g' ,Ext g g'/\Sim C g' U (h.new (.row 0 sz agg cs 0)) (w.drew.alloc (.cells (⟨os⟩++⟨ws⟩++Builtin.zeroCells zv.cells (grownCap w (n+m) cap el-(n+m))) el))/\
   bA g' (.row h.z 0 sz 0 (n+m)) (.slice (some ⟨w.heap.size,0,none⟩) (n+m) (grownCap w (n+m) cap el)):=by
 have hge:=grownCap_ge w (n+m) cap el;have hlen:=hv.length;rw[List.length_append]at hlen;obtain⟨us,hus⟩:∃ us,us=(⟨os⟩++⟨ws⟩++Builtin.zeroCells zv.cells (grownCap w (n+m) cap el-(n+m)):Array Value):=⟨_,rfl⟩
 rw[<- hus];have husz:us.size=grownCap w (n+m) cap el*sz:=by
  rw[hus];simp only[Array.size_append,size_zeroCells,hz];have e1:(⟨os⟩:Array Value).size=os.length:=rfl;have e2:(⟨ws⟩:Array Value).size=ws.length:=rfl;rw[e1,e2,hlo,<- Nat.add_mul];congr 1;omega
 have htake:us.toList.take cs.length=os++ws:=by
  rw[hus];simp only[Array.toList_append];rw[List.take_left' (by rw[List.length_append];omega)]
 obtain⟨g',w',hw',ex,s',hv'⟩:=oY (agg:=agg) s.drew el hp (grownCap w (n+m) cap el) hge (us:=us) (cs:=cs) o_
  (by rw[hlen,hlo];exact Nat.mul_le_mul_right _ hge) (by rw[htake];exact hv) ha
 have:w'=w.drew.alloc (.cells us el):=by
  simp[newRow]at hw';exact hw'.symm
 subst this;exact⟨g',ex,s',hv'⟩
theorem xZ {α:Type}{l:List α}{n:Nat}(h:l.length=n):l.take n=l:=List.take_of_length_le o_
theorem RO (s:Sim C g U h w)(ht:ep g tm tmps){o:Oper}{c:Call}{x y:Operand}{ax ay:AX}{el:TypeId}{sz:Nat}{z:AV}{i:TypeInfo}(ho:o.op=.call c)(hc:c.callee=.builtin .append)
  (ha:c.args=#[x,y]) (h0:iD C.T c.argTypes 0=some el) {e1:TypeId} (h1:iD C.T c.argTypes 1=some e1) (hsz:szT C.T el=some sz) (hz:jN C.T el=some z) (hi:C.T.get el=some i)
  (hp:0<sz) (hx:cX x=some ax) (hy:cX y=some ay) (e:qG (cU h sz (cm C.T el) z.cells i.bytes (ev ax tm) (ev ay tm))=.val v h') :
  gG C g U h ((execOp (alc tmps) o).run C.P w) v h':=by
 have e:=oO e;obtain⟨xs,hxs,e⟩:=aA e;obtain⟨hcond,e⟩:=aN e;obtain⟨hlie,hzlen⟩:=cR hcond;obtain⟨i',zv,hi',hzv,hzr,hzl,hzc,_⟩:=iG g hz;rw[hi]at hi';cases hi';obtain⟨i2,d2,hi2,hsz2,_⟩:=mB hsz;rw[hi]at hi2;cases hi2;have hzcells:zv.cells.size=sz:=by have:=(hzr.cells (lZ hzc)).length;simp at this;omega
 have A:ahH C c.argTypes el sz i.bytes zv:=by
  obtain⟨t,ht0,hd⟩:=aA h0;obtain⟨d,hd,hd'⟩:=aA hd;cases d<;>first|(cases hd';done)|skip
  cases hd';obtain⟨t',ht1,hd1⟩:=aA h1;obtain⟨d,hd1,hd1'⟩:=aA hd1;cases d<;>first|(cases hd1';done)|skip
  cases hd1';exact⟨⟨t,by simpa using ht0,hd⟩,⟨t',_,by simpa using ht1,hd1⟩,hsz,⟨i,hi,rfl,hzv⟩,hzcells,hp⟩
 have rx:=bQ ht hx;have ry:=bQ ht hy;have lift:∀ u w',(Builtin.append_ c.argTypes o.type #[alc tmps x,alc tmps y]).run C.P w=.ok u w'->(execOp (alc tmps) o).run C.P w=.ok (.value u) w':=by
  intro u w' hq;simp[execOp,ho,resolve,hc,ha,invoke,builtin,hq]
 obtain⟨b,cap',ws,hyu,hycap,hyv,hya,hys,hyrun⟩:=wP s ry hxs;have hwl:ws.length=xs.length*sz:=by rw[<- hyv.length,dJ hys]
 have hyrun1:=hyrun w xs.length (fun _ _ _ _ q=>q) (e_ _);have hyrun2:=hyrun w.drew xs.length (fun _ _ _ _ q=>q) (e_ _);rw[xZ hwl]at hyrun1 hyrun2;cases hxs':xs with
 |nil=>
  subst hxs';have e:pS (ev ax tm) h=some (v,h'):=e;have hf0:(Builtin.firstCells sz 0 (alc tmps y)).run C.P w=.ok #[] w:=by
   have:=hyrun w 0 (fun _ _ _ _ q=>q) (Nat.zero_le _);simpa using this
  have hyu:alc tmps y=.slice b 0 cap':=hyu;generalize ev ax tm=a at rx e;cases a<;>first|(cases e;done)|skip
  case nl=>
   cases e;refine bc s (lift _ _ ?_) rx;rw[rx.nils_inv];exact gv A (e_ _) hyu hf0
  case ls es=>
   cases e;refine bc s (lift _ _ ?_) rx;obtain⟨a,cap,hu,hcap,_⟩:=rx.lst_inv;rw[hu];exact gv A hcap hyu hf0
  case clip es=>
   cases e;refine bc s (lift _ _ ?_) rx;obtain⟨a,hu,_⟩:=rx.clip_inv;rw[hu];exact gv A (e_ _) hyu hf0
  case row k gn sz' off m=>
   cases e;refine bc s (lift _ _ ?_) rx;obtain⟨l,a,_,_,hle,hu,_⟩:=rx.row_inv;rw[hu];exact gv A o_ hyu hf0
 |cons x0 xs0=>
  have hne:0<xs.length:=by rw[hxs'];simp
  have e:jw (ev ax tm) h sz (cm C.T el) i.bytes xs=some (v,h'):=by rw[hxs']at e ⊢;exact e
  clear hxs';generalize ev ax tm=a at rx e;cases a<;>first|(cases e;done)|skip
  case nl=>
   obtain⟨hneed,e⟩:=aN (c:=need 0 (len xs) i.bytes) e;cases e;rw[bH]at hneed ⊢;have hrun:=jQ (w:=w) (ty:=o.type) A (a:=none) (n:=0) (m:=xs.length) (cap:=0) o_ hyu (os:=[]) (by simp[Builtin.firstCells]) hyrun2 hneed;obtain⟨g',ex,s',hv⟩:=ER (agg:=cm C.T el) (el:=el) (cap:=0) (n:=0) (m:=xs.length) (os:=[]) s hp hzcells (cs:=flat xs) (by simpa using hwl) (by simpa using hyv) hya;refine⟨g',_,_,.inl (lift _ _ (by rw[rx.nils_inv];exact hrun)),ex,s',?_,Low.new _ _⟩;simpa using hv
  case clip es=>
   obtain⟨hcc,e⟩:=aN (c:=and (need (len es) (len xs) i.bytes) (and (ew sz es) (fy es))) e;obtain⟨hneed,hcc⟩:=cR hcc;obtain⟨hsz1,_⟩:=cR hcc;cases e;rw[bH,bH]at hneed;rw[bH,bH,gT];obtain⟨a',cap2,os,hxu,hxcap,hxv,hxa,hxs2,hxrun⟩:=wP s (sz:=sz) (xs:=es) rx (by show cond (ew sz es) (some es) none=_;rw[hsz1];rfl);have hol:os.length=es.length*sz:=by rw[<- hxv.length,dJ hxs2]
   have hxrun2:=hxrun w.drew es.length (fun _ _ _ _ q=>q) (e_ _);rw[xZ hol,hxu]at hxrun2;obtain⟨a2,hu2,_⟩:=rx.clip_inv;have hcapeq:cap2=es.length:=by rw[hxu]at hu2;cases hu2;rfl
   subst hcapeq;have hrun:=jQ (w:=w) (ty:=o.type) A (a:=a') (n:=es.length) (m:=xs.length) (cap:=es.length) o_ hyu hxrun2 hyrun2 hneed;obtain⟨g',ex,s',hv⟩:=ER (agg:=cm C.T el) (el:=el) (cap:=es.length) (n:=es.length) (m:=xs.length) (os:=os) (ws:=ws) s hp hzcells (cs:=flat es++flat xs)
    (by rw[hol,hwl,Nat.add_mul]) (hxv.append hyv) (by rw[eJ,hxa,hya];rfl)
   exact⟨g',_,_,.inl (lift _ _ (by rw[hxu];exact hrun)),ex,s',hv,Low.new _ _⟩
  case row k gn sz' off m=>
   obtain⟨hc1,e⟩:=aN (c:=Nat.beq sz' sz) e;have hc1:=beq_eq hc1;subst hc1;obtain⟨r,hr,e⟩:=aA e;obtain⟨hcc,e⟩:=aN e;cases e;obtain⟨k1,hcc⟩:=cR hcc;obtain⟨k2,hcc⟩:=cR hcc;obtain⟨k3,hneed⟩:=cR hcc;have k1:=wi k1;have k2:r.2.2<=(off+m)*sz':=eE k2;have k3:=eE k3;rw[bH]at k3 hneed;have k3:(off+m)*sz'<=r.2.1.length:=k3;obtain⟨l,a,hl,hs,hle,hu,hacase⟩:=rx.row_inv;obtain⟨r1,r2,r3,r4⟩:=mF s hl hr;obtain⟨q1,q2,us,t',q3,q4,q5,q6,q7,q8,q9⟩:=r4;have hlt:l.block<w.heap.size:=(Array.getElem?_eq_some_iff.1 q3).1;have hmulle:off*sz'+m*sz'=(off+m)*sz':=by rw[Nat.add_mul]
   have holen:((r.2.1.drop (off*sz')).take (m*sz')).length=m*sz':=by simp;omega
   have hodv:=((q6.drop (off*sz')).take (m*sz'));have hodl:((((us.toList.drop l.base).take r.2.1.length).drop (off*sz')).take (m*sz')).length=m*sz':=by rw[<- hodv.length];exact holen
   have hoca:aR ((r.2.1.drop (off*sz')).take (m*sz'))=true:=eR (da q7 _) _;have hnew:aR ((r.2.1.drop (off*sz')).take (m*sz')++flat xs)=true:=by rw[eJ,hoca,hya];rfl
   have hρnew:g.ρ k (gn+1)=none:=q9 (gn+1) o_;rw[gT,iB,fa,bH];have hobj:lA (.row (Nat.succ gn) sz' (cm C.T el) ((r.2.1.drop (Nat.mul off sz')).take (Nat.mul m sz')++flat xs) (Nat.sub r.2.2 (Nat.mul off sz')))=gn+1:=rfl;have hm1:Nat.mul off sz'=off*sz':=rfl;have hm2:Nat.mul m sz'=m*sz':=rfl;have hm3:Nat.sub r.2.2 (off*sz')=r.2.2-off*sz':=rfl;have hm4:Nat.add m xs.length=m+xs.length:=rfl;rw[hm1,hm2,hm3,hm4];have hcelllen:((r.2.1.drop (off*sz')).take (m*sz')++flat xs).length=(m+xs.length)*sz':=by
    rw[List.length_append,holen,dJ hys,Nat.add_mul]
   rcases Nat.lt_or_ge (l.cap-off) (m+xs.length) with hgrow|hroom
   ·-- it moves
    have horun:(Builtin.firstCells sz' m (alc tmps x)).run C.P w.drew=.ok ⟨(((us.toList.drop l.base).take r.2.1.length).drop (off*sz')).take (m*sz')⟩ w.drew:=by
     rw[hu];rcases hacase with rfl|⟨rfl,_⟩
     ·have:=jP (C:=C) (w:=w.drew) (sz:=sz') (n:=m) (len:=m) (cap:=l.cap-off) (ws:=((us.toList.drop l.base).take r.2.1.length).drop (off*sz')) (a:=⟨l.block,l.base+off*sz',none⟩) rfl
       (by have:=hodl;rw[List.length_take]at this;omega) (fun i yy hi=>td (cs:=r.2.1) (off:=off*sz') q3 i yy hi)
      exact this
     ·cases a with
      |none=>simp[Builtin.firstCells]
      |some a=>simp[Builtin.firstCells,loadCells,loadCellsFrom]
    rw[hu]at horun;have hrun:=jQ (w:=w) (ty:=o.type) A (a:=a) (n:=m) (m:=xs.length) (cap:=l.cap-off) hgrow hyu horun hyrun2 hneed;have hge:=grownCap_ge w (m+xs.length) (l.cap-off) el;obtain⟨os,hos⟩:∃ os,os=(((us.toList.drop l.base).take r.2.1.length).drop (off*sz')).take (m*sz'):=⟨_,rfl⟩
    rw[<- hos]at hrun hodv hodl;obtain⟨nu,hnu⟩:∃ nu,nu=(⟨os⟩++⟨ws⟩++Builtin.zeroCells zv.cells (grownCap w (m+xs.length) (l.cap-off) el-(m+xs.length)):Array Value):=⟨_,rfl⟩
    rw[<- hnu]at hrun;have hnusz:nu.size=grownCap w (m+xs.length) (l.cap-off) el*sz':=by
     rw[hnu];simp only[Array.size_append,size_zeroCells,hzcells];have e1:(⟨os⟩:Array Value).size=os.length:=rfl;have e2:(⟨ws⟩:Array Value).size=ws.length:=rfl;rw[e1,e2,hodl,hwl,<- Nat.add_mul,<- Nat.add_mul];congr 1;omega
    have htake:nu.toList.take ((m+xs.length)*sz')=os++ws:=by
     rw[hnu];simp only[Array.toList_append];rw[List.take_left' (by rw[List.length_append,hodl,hwl,Nat.add_mul])]
    have exn:=g.at_ext (k:=k) (n:=gn+1) ⟨w.heap.size,0,grownCap w (m+xs.length) (l.cap-off) el,sz'⟩ hρnew;obtain⟨ex,s'⟩:=s.regen (w':=w.drew.alloc (.cells nu el)) (n':=gn+1) (l':=⟨w.heap.size,0,grownCap w (m+xs.length) (l.cap-off) el,sz'⟩)
     (o':=.row (gn+1) sz' (cm C.T el) ((r.2.1.drop (off*sz')).take (m*sz')++flat xs) (r.2.2-off*sz')) r1 r2 hl rfl hρnew
     (fun bb hb1 hb2=>heap_alloc_old w.drew _ bb hb2) (by simp) (.inr (e_ _))
     ⟨rfl,hp,nu,el,heap_alloc_new w.drew _,by simp[hnusz],by rw[hcelllen];exact Nat.mul_le_mul_right _ hge,
      by rw[List.drop_zero,hcelllen,htake];exact(hodv.append hyv).mono exn,hnew,
      fun oo vv q=>by
       have q:g.F w.heap.size oo=some vv:=q;exact absurd (s.frz_lt q) (Nat.lt_irrefl _),
      fun mm hmm=>by rw[Gh.at_other g _ o_];exact q9 mm o_⟩
     (fun ii vv q=>by
       have q:g.F w.heap.size ii=some vv:=q;exact absurd (s.frz_lt q) (Nat.lt_irrefl _)) rfl rfl rfl
    refine⟨_,_,_,.inl (lift _ _ (by rw[hu];exact hrun)),ex,s',?_,Low.set _ _ _⟩;have:=bA.row (g:=g.at k (gn+1) ⟨w.heap.size,0,grownCap w (m+xs.length) (l.cap-off) el,sz'⟩) (k:=k) (n:=gn+1) (sz:=sz') (off:=0) (len:=m+xs.length) (g.at_same _ _ _) rfl (by simpa using hge);simpa using this
   ·-- in its place
    rcases hacase with rfl|⟨q,hq2⟩
    ·have hone:=pw hyv hya;have hin:(off+(m+xs.length))*sz'<=l.cap*sz':=Nat.mul_le_mul_right _ o_;have hin2:(off+(m+xs.length))*sz'=(off+m)*sz'+xs.length*sz':=by rw[<- Nat.add_mul];congr 1;omega
     have hst:=fE (C:=C) (b:=l.block) (off:=l.base+(off+m)*sz') (t:=t') ws 0 w us q3 o_ hone;rw[Nat.add_zero]at hst;have haddr:(⟨l.block,l.base+off*sz',none⟩:Addr).add (m*sz')=⟨l.block,l.base+(off+m)*sz',none⟩:=by rw[iM];congr 1;omega
     rw[<- haddr]at hst;have hrun:=xy (w:=w) (ty:=o.type) A (cap:=l.cap-off) hroom hyu hyrun1 hst;have hbnd:l.base+(off+m)*sz'+ws.length<=us.toList.length:=by simp;omega
     have exn:=g.at_ext (k:=k) (n:=gn+1) ⟨l.block,l.base+off*sz',l.cap-off,sz'⟩ hρnew;obtain⟨ex,s'⟩:=s.regen (w':=setBlk w l.block (.cells ⟨setR (l.base+(off+m)*sz') ws us.toList⟩ t' (0,0))) (n':=gn+1) (l':=⟨l.block,l.base+off*sz',l.cap-off,sz'⟩)
      (o':=.row (gn+1) sz' (cm C.T el) ((r.2.1.drop (off*sz')).take (m*sz')++flat xs) (r.2.2-off*sz')) r1 r2 hl rfl hρnew
      (fun bb hb1 hb2=>jG hb1) (by rw[tG];exact e_ _) (.inl rfl)
      ⟨rfl,hp,_,t',dZ hlt,by
        show l.base+off*sz'+(l.cap-off)*sz'<=(setR (l.base+(off+m)*sz') ws us.toList).length;rw[jk];have:off*sz'+(l.cap-off)*sz'=l.cap*sz':=by rw[<- Nat.add_mul];congr 1;omega
        simp;omega,
       by rw[hcelllen];exact Nat.mul_le_mul_right _ o_,by
        rw[hcelllen];have:((setR (l.base+(off+m)*sz') ws us.toList).drop (l.base+off*sz')).take ((m+xs.length)*sz')=((((us.toList.drop l.base).take r.2.1.length).drop (off*sz')).take (m*sz'))++ws:=by
         apply List.ext_getElem?;intro ii;rw[List.getElem?_take,List.getElem?_drop,oI _ _ _ _ hbnd,List.getElem?_append,hodl];have hmx:(m+xs.length)*sz'=m*sz'+xs.length*sz':=Nat.add_mul _ _ _;by_cases hi1:ii<m*sz'
         ·rw[P_ o_,N_ o_,P_ hi1,List.getElem?_take,P_ hi1,List.getElem?_drop,List.getElem?_take,P_ o_,List.getElem?_drop,Nat.add_assoc]
         ·rw[N_ hi1];by_cases hi2:ii<(m+xs.length)*sz'
          ·rw[P_ hi2,P_ o_];congr 1;omega
          ·rw[N_ hi2,List.getElem?_eq_none o_]
        show aY _ _ (((setR (l.base+(off+m)*sz') ws us.toList).drop (l.base+off*sz')).take ((m+xs.length)*sz'));rw[this];exact(hodv.append hyv).mono exn,hnew,
       fun oo vv q=>by
        have q:g.F l.block oo=some vv:=q;have:=q8 oo vv q;show oo<l.base+off*sz'+(r.2.2-off*sz');omega,
       fun mm hmm=>by rw[Gh.at_other g _ o_];exact q9 mm o_⟩
      (fun ii vv q=>by
       have q:g.F l.block ii=some vv:=q;have hlt2:=q8 ii vv q;rw[cell_of_row _ _ _ _ t' (0,0) (dZ hlt)];have:=s.frz _ _ _ q;rw[cell_of_row _ _ _ us t' (0,0) q3]at this;have e2:(⟨setR (l.base+(off+m)*sz') ws us.toList⟩:Array Value)[ii]?=(setR (l.base+(off+m)*sz') ws us.toList)[ii]?:=by simp
       rw[e2,oI _ _ _ _ hbnd,N_ o_];simpa using this) rfl rfl rfl
     refine⟨_,_,_,.inl (lift _ _ (by rw[hu];exact hrun)),ex,s',?_,Low.set _ _ _⟩;have:=bA.row (g:=g.at k (gn+1) ⟨l.block,l.base+off*sz',l.cap-off,sz'⟩) (k:=k) (n:=gn+1) (sz:=sz') (off:=0) (len:=m+xs.length) (g.at_same _ _ _) rfl (by simpa using hroom);simpa using this
    ·omega
end
section
variable {C:Cx}{g:Gh}{U:Nat->Option (List AV)}{h h':AH}{w:World}{tm:Tm}{tmps:Array Value}{v:AV}
theorem YK (s:Sim C g U h w){k gn sz off:Nat}{agg:Bool}{cs:List AV}{fz:Nat}{l:Loc}(hl:g.ρ k gn=some l)(hr:h.get k=some (.row gn sz agg cs fz)){vs:List AV}{ws:List Value}
  (hfz:fz<=off) (hle:off+vs.length<=cs.length) (hv:aY g vs ws) (ha:aR vs=true) :
  ∃ w',(storeCells ⟨l.block,l.base+off,none⟩ ws).run C.P w=.ok () w'/\Sim C g U (h.set k (.row gn sz agg (setR off vs cs) fz)) w':=by
 refine ya s hr hl ?_ hv ha;show cond (and (Nat.beq gn gn) (and (Nat.ble fz off) (Nat.ble (Nat.add off (len vs)) (len cs)))) _ _=_;rw[Nat.beq_refl,Nat.ble_eq_true_of_le hfz,bH,bH,show Nat.ble (Nat.add off vs.length) cs.length=true from Nat.ble_eq_true_of_le hle];rfl
theorem pc {es:List AV}{sz k:Nat}(hs:∀ e∈es,e.cells.length=sz):flat (es.take k)=(flat es).take (k*sz):=by
 have:=wJ (l:=0) (k:=k) hs (Nat.zero_le _);simpa using this
theorem aci (s:Sim C g U h w)(ht:ep g tm tmps){o:Oper}{c:Call}{x y:Operand}{ax ay:AX}{el:TypeId}{sz:Nat}(ho:o.op=.call c)(hc:c.callee=.builtin .copy)
  (ha:c.args=#[x,y]) (h0:iD C.T c.argTypes 0=some el) (hsz:szT C.T el=some sz) (hx:cX x=some ax) (hy:cX y=some ay)
  (e:qG (Zc h sz (ev ax tm) (ev ay tm))=.val v h'):gG C g U h ((execOp (alc tmps) o).run C.P w) v h':=by
 have e:=oO e;obtain⟨xs,hxs,e⟩:=aA e;obtain⟨hlie,e⟩:=aN e;obtain⟨t,ht0,hd⟩:=aA h0;obtain⟨d,hd,hd'⟩:=aA hd;cases d<;>first|(cases hd';done)|skip
 cases hd';have ht0':c.argTypes[0]?=some t:=by simpa using ht0
 have rx:=bQ ht hx;have ry:=bQ ht hy;have lift:∀ u w',(Builtin.copy_ c.argTypes o.type #[alc tmps x,alc tmps y]).run C.P w=.ok u w'->(execOp (alc tmps) o).run C.P w=.ok (.value u) w':=by
  intro u w' hq;simp[execOp,ho,resolve,hc,ha,invoke,builtin,hq]
 obtain⟨b,cap',ws,hyu,hycap,hyv,hya,hys,hyrun⟩:=wP s ry hxs;generalize ev ax tm=a at rx e;cases a<;>first|(cases e;done)|skip
 case nl=>
  cases e;have hf:=hyrun w 0 (fun _ _ _ _ q=>q) (Nat.zero_le _);refine bc s (lift _ _ ?_) (.int .i64 0);have hmin:Nat.min xs.length 0=0:=Nat.min_zero _;simp[Builtin.copy_,ht0',bj hd,rx.nils_inv,hyu,Builtin.lenOf,bY hsz,goInt];rw[hyu]at hf;simp[hf]
 case row k gn sz' off m=>
  obtain⟨hc1,e⟩:=aN (c:=Nat.beq sz' sz) e;have hc1:=beq_eq hc1;subst hc1;obtain⟨r,hr,e⟩:=aA e;obtain⟨hcc,e⟩:=aN e;cases e;obtain⟨k1,k2⟩:=cR hcc;have k1:r.2.2<=off*sz':=eE k1;have k2:=eE k2;rw[bH]at k2;have k2:(off+m)*sz'<=r.2.1.length:=k2;obtain⟨l,a,hl,hs,hle,hu,hacase⟩:=rx.row_inv;obtain⟨r1,r2,r3,r4⟩:=mF s hl hr;rw[bH,sE,iB];have hm1:Nat.mul off sz'=off*sz':=rfl;rw[hm1];have hf:=hyrun w (min xs.length m) (fun _ _ _ _ q=>q) (Nat.min_le_left _ _);have hft:=pc (k:=min xs.length m) hys;have hvt:aY g (flat (xs.take (min xs.length m))) (ws.take (min xs.length m*sz')):=by rw[hft];exact hyv.take _
  have hlen:(flat (xs.take (min xs.length m))).length=min xs.length m*sz':=by
   rw[dJ (fun e he=>hys e (List.mem_of_mem_take he)),List.length_take];congr 1;omega
  have hle2:min xs.length m*sz'<=m*sz':=Nat.mul_le_mul_right _ (Nat.min_le_right _ _);have hadd:(off+m)*sz'=off*sz'+m*sz':=Nat.add_mul _ _ _;obtain⟨w',hst,s'⟩:=YK s hl r1 (vs:=flat (xs.take (min xs.length m))) (ws:=ws.take (min xs.length m*sz')) k1 (by rw[hlen];omega) hvt (by rw[hft];exact eR hya _);refine⟨g,w',.int .i64 ((min xs.length m:Nat):Int),.inl (lift _ _ ?_),.refl g,s',.int _ _,Low.set _ _ _⟩;have hmin:Nat.min xs.length m=min xs.length m:=rfl;rw[hyu]at hf;rcases hacase with rfl|⟨rfl,_⟩
  ·simp[Builtin.copy_,ht0',bj hd,hu,hyu,Builtin.lenOf,bY hsz,hmin,goInt,hf,hst]
  ·simp only[Nat.min_zero,Nat.zero_mul,List.take_zero]at hst hf;have hw':w'=w:=by simp[storeCells]at hst;exact hst.symm
   subst hw';have hmin0:Nat.min xs.length 0=0:=Nat.min_zero _;cases a with
   |none=>simp[Builtin.copy_,ht0',bj hd,hu,hyu,Builtin.lenOf,bY hsz,hmin0,goInt,hf]
   |some a=>simp[Builtin.copy_,ht0',bj hd,hu,hyu,Builtin.lenOf,bY hsz,hmin0,goInt,hf,storeCells]
theorem Vf (s:Sim C g U h w)(ht:ep g tm tmps){o:Oper}{c:Call}{x:Operand}{ax:AX}{el:TypeId}{sz:Nat}{z:AV}(ho:o.op=.call c)(hc:c.callee=.builtin .clear)
  (ha:c.args=#[x]) (h0:iD C.T c.argTypes 0=some el) (hsz:szT C.T el=some sz) (hz:jN C.T el=some z) (hx:cX x=some ax)
  (e:okH (OY (ev ax tm) h sz z.cells)=.val v h'):gG C g U h ((execOp (alc tmps) o).run C.P w) v h':=by
 obtain⟨e',rfl⟩:=Be e;clear e;obtain⟨t,ht0,hd⟩:=aA h0;obtain⟨d,hd,hd'⟩:=aA hd;cases d<;>first|(cases hd';done)|skip
 cases hd';have ht0':c.argTypes[0]?=some t:=by simpa using ht0
 obtain⟨i,zv,hi,hzv,hzr,hzl,hzc,_⟩:=iG g hz;obtain⟨i2,d2,hi2,hsz2,_⟩:=mB hsz;rw[hi]at hi2;cases hi2;have hzcv:=hzr.cells (lZ hzc);have rx:=bQ ht hx;have lift:∀ u w',(Builtin.clear_ c.argTypes o.type #[alc tmps x]).run C.P w=.ok u w'->(execOp (alc tmps) o).run C.P w=.ok (.value u) w':=by
  intro u w' hq;simp[execOp,ho,resolve,hc,ha,invoke,builtin,hq]
 generalize ev ax tm=a at rx e';cases a<;>first|(cases e';done)|skip
 case nl=>
  cases e';refine bc s (lift (.tuple #[]) _ ?_) (.tup .nil);simp[Builtin.clear_,ht0',bj hd,rx.nils_inv]
 case row k gn sz' off m=>
  obtain⟨hc1,e⟩:=aN (c:=Nat.beq sz' sz) e';have hc1:=beq_eq hc1;subst hc1;obtain⟨r,hr,e⟩:=aA e;obtain⟨hcc,e⟩:=aN e;cases e;obtain⟨_,hcc⟩:=cR hcc;obtain⟨k1,k2⟩:=cR hcc;have k1:r.2.2<=off*sz':=eE k1;have k2:=eE k2;rw[bH]at k2;have k2:(off+m)*sz'<=r.2.1.length:=k2;obtain⟨l,a,hl,hs,hle,hu,hacase⟩:=rx.row_inv;obtain⟨r1,r2,r3,r4⟩:=mF s hl hr;have hm1:Nat.mul off sz'=off*sz':=rfl;rw[hm1];have hadd:(off+m)*sz'=off*sz'+m*sz':=Nat.add_mul _ _ _;have hrl:(rY m z.cells).length=m*sz':=by rw[jm,hzl,hsz2]
  obtain⟨w',hst,s'⟩:=YK s hl r1 (vs:=rY m z.cells) (ws:=(Builtin.zeroCells zv.cells m).toList) k1 (by rw[hrl];omega) (sV hzcv m) (iX _ hzc m);refine⟨g,w',.tuple #[],.inl (lift _ _ ?_),.refl g,s',.tup .nil,Low.set _ _ _⟩;cases m with
  |zero=>
   have hw':w'=w:=by
    have:(Builtin.zeroCells zv.cells 0).toList=[]:=by rw[zt,ij _ (Nat.zero_mul _)]
    rw[this]at hst;simp[storeCells]at hst;exact hst.symm
   subst hw';cases a with
   |none=>simp[Builtin.clear_,ht0',bj hd,hu]
   |some a=>simp[Builtin.clear_,ht0',bj hd,hu]
  |succ m=>
   rcases hacase with rfl|⟨q,_⟩
   ·simp[Builtin.clear_,ht0',bj hd,hu,cZ hi hzv,hst]
   ·omega
end
