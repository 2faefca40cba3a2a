/- SolverFinishes: Check of the reference says whether the bounds are valid and in scope (no condition). -/
import Derived.Test.YtnacljdablhbgaaGreatEa
import Derived.KernelRfl
namespace Go.Proofs.YtnacljdablhbgaaGreat
open Go.AG
attribute [local go_sem] dB bJ bk bS bR ca
theorem adH (h:AH)(a b:AV):iS true true 2 [a,b] 0 [] h=.val (.clip []) h:=(rfl)
theorem Ec (tm:Tm)(sz:Nat):cr [] tm sz=[]:=(rfl)
attribute [local go_sem] adH Ec
def Ap (base:Nat)(h:AH)(v:AV)(out:List LV):Prop:=(v=.clip []/\out=[])∨((∃k g n,v=.row k g 2 0 n)/\Own base 2 true h v (out.map encV))
theorem Ap.rd {base:Nat}{h:AH}{v:AV}{out:List LV}(a:Ap base h v out):Rd encV 2 h.z h v out:=by
 rcases a with⟨rfl,rfl⟩|⟨_,o⟩
 ·exact⟨fun h=>rfl,fun i x e=>by simp at e,rfl,rfl,fun m h b _=>qX m b _⟩
 ·exact qI o
theorem WN {base:Nat}{h:AH}{v:AV}{vs:List LV}(o:Own base 2 true h v (vs.map encV)){i:Nat}{x:LV}(e:vs[i]?=some x):
  ∃p p0,∀H:AH,(∀k,k<h.z->H.get k=h.get k)->cz v H 2 (wt (i:Int))=.val p H/\eM p H 0 1 false=.val p0 H/\dH p0 H false 1=some (wt x.i):=by
 obtain⟨o1,⟨rfl,e2⟩|⟨k,g,rfl,hk,hlt,hbk⟩⟩:=o
 ·have:vs=[]:=by simpa using e2
  subst this;simp at e
 ·refine⟨.ptr k g (i*2),.ptr k g (i*2+0),fun H hH=>⟨?_,rfl,?_⟩⟩
  ·have hi:i<(vs.map encV).length:=by
    rw[waa];exact(wah.1 e).1
   exact xA hi H
  ·have ex:(vs.map encV)[i]?=some (encV x):=by rw[List.getElem?_map,e];rfl
   have hf:=qY (sz:=2) (fun y hy=>(o1 y hy).1) ex;have hi:i<(vs.map encV).length:=(wah.1 ex).1;have hl:=gY (fun y hy=>(o1 y hy).1);rw[jz,hH k hlt,hk,aF,po,wN,Nat.add_zero];have h0:((flat (vs.map encV)).drop (i*2))[0]?=some (wt x.i):=by
    have:(((flat (vs.map encV)).drop (i*2)).take 2)[0]?=some (wt x.i):=by rw[hf];rfl
    rw[List.getElem?_take]at this;simpa using this
   rw[List.getElem?_drop]at h0;simpa using h0
theorem Ap.i {base:Nat}{h:AH}{v:AV}{out:List LV}(a:Ap base h v out){i:Nat}{x:LV}(e:out[i]?=some x):
  ∃p p0,∀H:AH,(∀k,k<h.z->H.get k=h.get k)->cz v H 2 (wt (i:Int))=.val p H/\eM p H 0 1 false=.val p0 H/\dH p0 H false 1=some (wt x.i):=by
 rcases a with⟨rfl,rfl⟩|⟨_,o⟩
 ·simp at e
 ·exact WN o e
theorem Ap.kw {base:Nat}{h h':AH}{v:AV}{out:List LV}(a:Ap base h v out)(hn:h.z<=h'.z)(hg:∀k,k<h.z->h'.get k=h.get k):Ap base h' v out:=by
 rcases a with⟨rfl,rfl⟩|⟨e,o⟩
 ·exact .inl ⟨rfl,rfl⟩
 ·exact .inr ⟨e,bp o hn fun k _ hk=>hg k hk⟩
theorem Ap.append {base:Nat}{h:AH}{v:AV}{out xs:List LV}(a:Ap base h v out)(hb:base<=h.z)(h1:out.length<=1000)(h2:xs.length<=1000)(za zb:AV):
  ∃v' h',dO h 2 true [za,zb] 16 v (.ls (xs.map encV))=some (v',h')/\Ap base h' v' (out++xs)/\h.z<=h'.z/\(∀k,k<base->h'.get k=h.get k)/\(∀b,b<=base->b<=h.low->b<=h'.low):=by
 have hs:fl 2 (xs.map encV)=true:=om ct xs;have hl:iu (xs.map encV)=true:=mK (fun _=>rfl) xs;have e0:dO h 2 true [za,zb] 16 v (.ls (xs.map encV))=List.casesOn (xs.map encV) (mX v h) fun y ys=>kQ v h 2 true 16 (y::ys):=by
  show aq (cond (fl 2 (xs.map encV)) (some (xs.map encV)) none) (fun xs=>cond (and (iu xs) (Nat.beq 2 2)) _ _)=_;rw[hs,cond_true,aF,hl];rfl
 cases hx:xs with
 |nil=>
  subst hx;rw[e0];rcases a with⟨rfl,rfl⟩|⟨⟨k,g,n,rfl⟩,o⟩
  ·exact⟨_,_,rfl,.inl ⟨rfl,rfl⟩,Fv _,fun _ _=>rfl,fun _ _ h=>h⟩
  ·exact⟨_,_,rfl,.inr ⟨⟨k,g,n,rfl⟩,by simpa using o⟩,Fv _,fun _ _=>rfl,fun _ _ h=>h⟩
 |cons y ys=>
  have hne:xs.map encV=encV y::ys.map encV:=by rw[hx];rfl
  have hlen:(xs.map encV).length=xs.length:=waa _;have ecs:(List.casesOn (xs.map encV) (mX v h) fun y ys=>kQ v h 2 true 16 (y::ys):Option (AV×AH))=kQ v h 2 true 16 (xs.map encV):=by rw[hne]
  have hall:∀z∈(out++xs).map encV,z.cells.length=2/\z.isAgg=true:=fun z hz=>by obtain⟨w,_,rfl⟩:=List.mem_map.1 hz;exact⟨rfl,rfl⟩
  have hneed:∀m,m<=1000->need m (xs.map encV).length 16=true:=by
   intro m hm;show and (Nat.ble ((2*(m+(xs.map encV).length)+1000)*16) 140737488355328) (Nat.ble (m+(xs.map encV).length) 9223372036854775807)=true;rw[hlen,gj (show(2*(m+xs.length)+1000)*16<=140737488355328 by omega),gj (by omega)];rfl
  rw[<-hx,e0,ecs];rcases a with⟨rfl,rfl⟩|⟨⟨k,g,n,rfl⟩,o⟩
  ·refine⟨.row h.z 0 2 0 xs.length,h.new (.row 0 2 true (flat (xs.map encV)) 0),?_,.inr ⟨⟨_,_,_,rfl⟩,hall,.inr ⟨h.z,0,by simp,by rw[aE];rfl,by rw[ci];omega,hb⟩⟩,by rw[ci];omega,fun k hk=>aJ (by omega),fun b _ h=>by rw[low_new];exact h⟩;show cond (and (need 0 (len (xs.map encV)) 16) (and (fl 2 []) (iu []))) (some (AV.row h.z 0 2 0 (Nat.add 0 (len (xs.map encV))),h.new (.row 0 2 true (app (flat []) (flat (xs.map encV))) 0))) none=_;rw[bH,hneed 0 (by omega),hlen,fk];show some (AV.row h.z 0 2 0 (0+xs.length),h.new (.row 0 2 true (flat []++flat (xs.map encV)) 0))=_;rw[wac];rfl
  ·obtain⟨o1,⟨e,_⟩|⟨k',g',e,hk,hlt,hbk⟩⟩:=o
   ·cases e
   ·cases e;have hfl:=gY (fun x hx=>(o1 x hx).1);have ol:(out.map encV).length=out.length:=waa _;refine⟨.row k (g+1) 2 0 ((out.map encV).length+xs.length),h.set k (.row (g+1) 2 true (flat (out.map encV++xs.map encV)) 0),?_,.inr ⟨⟨_,_,_,rfl⟩,hall,.inr ⟨k,g+1,by simp,by rw[aC,List.map_append],by rw[co];exact hlt,hbk⟩⟩,by rw[co];exact Fv _,fun k' hk'=>an (by omega),fun b h1 h2=>by rw[low_set];exact bo (by omega) h2⟩;have er:AG.lg h k g 2=some (true,flat (out.map encV),0):=by
     unfold AG.lg;rw[hk,aF];show aq (some (g,2,true,flat (out.map encV),0)) _=_;rw[aF];show cond (and (Nat.beq g g) (Nat.beq 2 2)) _ _=_;rw[fN,fN];rfl
    show cond (Nat.beq 2 2) (aq (AG.lg h k g 2) _) none=_;rw[fN,er,cond_true,aF];show cond (and (oG true true) (and (Nat.ble 0 ((0+(out.map encV).length)*2)) (and (Nat.ble ((0+(out.map encV).length)*2) (len (flat (out.map encV)))) (need (out.map encV).length (len (xs.map encV)) 16))))
     (some (AV.row k (g+1) 2 0 ((out.map encV).length+len (xs.map encV)),h.set k (.row (g+1) 2 true (app (tke ((out.map encV).length*2) (drp (0*2) (flat (out.map encV)))) (flat (xs.map encV))) (0-0*2)))) none=_
    rw[bH,bH,hneed _ (by omega),gj (show 0<=(0+(out.map encV).length)*2 by omega),gj (show(0+(out.map encV).length)*2<=(flat (out.map encV)).length by rw[hfl,wac];exact Fv _)];simp only[Nat.zero_mul,Nat.sub_self,fk,lz,fM,List.drop_zero];rw[<-hfl,List.take_length,jt,hlen];rfl
def isC (n:Nat)(bs:List (LL×LL))(v:AV):Prop:=∃i e:Int,v=.tup [wt i,wt e]/\(e=0->∀b∈bs,Okb n b)/\((∀b∈bs,Okb n b)->i=0/\e=0)
theorem zE {n:Nat}{bs:List (LL×LL)}{q:Nat}{b:LL×LL}(hb:bs[q]?=some b)(hno:¬Okb n b){i e:Int}(he:e≠0):isC n bs (.tup [wt i,wt e]):=
 ⟨i,e,rfl,fun h=>absurd h he,fun h=>absurd (h b (wS hb)) hno⟩
def I50a (n:Nat)(bs:List (LL×LL))(h0:AH)(j:Nat)(fr:AF)(h:AH):Prop:=∃tm m,m+j=bs.length/\fr=⟨tm,⟨[],.no,none,50⟩⟩/\h0.z<=h.z/\h0.z<=h.low/\(∀b∈bs.take m,Okb n b)/\
 nth tm 0=wt (n:Int)/\nth tm 1=.ls (bs.map cQ)/\nth tm 6=wt (m:Int)
def I50b (n q:Nat)(bs:List (LL×LL))(L:List LV)(V:AV)(h0:AH)(j:Nat)(fr:AF)(h:AH):Prop:=∃tm m,m+j=L.length/\fr=⟨tm,⟨[],.no,none,50⟩⟩/\h0.z<=h.z/\h0.z<=h.low/\(∃base,Ap base h V L)/\(∀x∈L.take m,x.i<0->-1-x.i<(n:Int))/\
 nth tm 0=wt (n:Int)/\nth tm 1=.ls (bs.map cQ)/\nth tm 6=wt (q:Int)/\nth tm 8=V/\nth tm 9=wt (m:Int)
theorem qN {α:Type}{l:List α}{m:Nat}{x:α}(hx:l[m]?=some x){P:α->Prop}(h:∀y∈l.take m,P y)(hp:P x):∀y∈l.take (m+1),P y:=by
 intro y hy;rw[fP hx]at hy;rcases List.mem_append.1 hy with hy|hy
 ·exact h y hy
 ·simp at hy;rw[hy];exact hp
theorem ad1 {K:aG}(hv:KV K)(m0:Nat)(n:Nat)(bs:List (LL×LL))(h:AH)(hn:n<=30)(hbl:bs.length<=100)(hb:∀b∈bs,b.1.v.length<=10/\b.2.v.length<=10):
  ∃v h',dZ EF (cK K m0) 30000 50 [wt (n:Int),.ls (bs.map cQ)] .no h=some (.ret v,.no,h')/\Gx (isC n bs) h v h':=by
 refine eU cf50 (fg _) ?_;unfold b50;have d1:decide ((n:Int)<0)=false:=HD (by omega);have d2:decide ((2000:Int)<(n:Int))=false:=HD (by omega);simp only[go_sem,simprocAttr,aaC,d1,d2,aaD];refine bD (I50a n bs h) bs.length (by omega) ⟨_,0,wac _,rfl,Fv _,Fv _,by simp,by and_intros<;>simp only[go_sem,simprocAttr]⟩ ?_;rintro j fr H ⟨tm,q,hq,rfl,hn1,hl1,hok,t0,t1,t6⟩;unfold abV;have hlen:∀H,lenOf (.ls (bs.map cQ)) H 1=some bs.length:=fun H=>by rw[dL,waa]
 simp only[go_sem,simprocAttr,t1,t6,hlen];refine bj (fun hlt=>?_) (fun hge=>?_)
 ·have hlt:q<bs.length:=by omega
  obtain⟨b,hbq⟩:∃b,bs[q]?=some b:=⟨_,wO hlt⟩
  have hw2:=aM q (by omega);obtain⟨p1,p2⟩:=hb b (wS hbq);have ia:=fun H=>aN nI hbq .i64 H
  have ebd:cQ b=.agg [wt b.1.c,.ls (b.1.v.map encV),wt b.2.c,.ls (b.2.v.map encV)]:=rfl;rw[ebd]at ia;obtain⟨nx,lo,ob⟩:=H;have hn1:h.z<=nx:=hn1;have hl1:h.z<=lo:=hl1;obtain⟨ob2,hob2⟩:∃ob2,ob2=(ob.put nx (.box [wt 0,.nl,wt 0,.nl])).put nx (.box [wt b.1.c,.ls (b.1.v.map encV),wt b.2.c,.ls (b.2.v.map encV)]):=⟨_,rfl⟩
  have g7:ob2.get nx=some (.box [wt b.1.c,.ls (b.1.v.map encV),wt b.2.c,.ls (b.2.v.map encV)]):=by rw[hob2,Tr.cB]
  have e1:=fun h=>dQ (hv.r21 _ b.1 h (nA b.1.c b.1.v) (by omega)) m0
  have e2:=fun h=>dQ (hv.r21 _ b.2 h (nA b.2.c b.2.v) (by omega)) m0
  by_cases v1:VL b.1
  ·by_cases v2:VL b.2
   ·rw[yZ v1]at e1;rw[yZ v2]at e2;obtain⟨A1,H1,x1,x2,x3,x4,x5⟩:=Ap.append (base:=nx+1) (h:=⟨nx+1,gz nx lo,ob2⟩) (v:=.clip []) (out:=[]) (xs:=b.1.v) (.inl ⟨rfl,rfl⟩) (Fv _) (by simp) (by omega) (wt 0) (wt 0);obtain⟨A2,H2,y1,y2,y3,y4,y5⟩:=Ap.append (xs:=b.2.v) x2 (show nx+1<=H1.z from x3) (by simp;omega) (by omega) (wt 0) (wt 0);rw[List.nil_append]at y2;obtain⟨nx1,lo1,ob3⟩:=H1;obtain⟨nx2,lo2,ob4⟩:=H2;have x3:nx+1<=nx1:=x3;have y3:nx1<=nx2:=y3;have g7':ob3.get nx=some (.box [wt b.1.c,.ls (b.1.v.map encV),wt b.2.c,.ls (b.2.v.map encV)]):=(x4 nx (by omega)).trans g7;have g7'':ob4.get nx=some (.box [wt b.1.c,.ls (b.1.v.map encV),wt b.2.c,.ls (b.2.v.map encV)]):=(y4 nx (by omega)).trans g7';have l1:h.z<=lo1:=x5 h.z (by omega) (by(repeat' (first|assumption|exact Fv _|apply bo))<;>omega);have l2:h.z<=lo2:=y5 h.z (by omega) l1;have bq1:=(Hx b.1.v).bq;have bq2:=(Hx b.2.v).bq;simp only[go_sem,simprocAttr,Mj,t1,t6,ia];rw[<-hob2];simp only[go_sem,simprocAttr,Mk,g7,e1,e2,aaF,x1,y1,g7',g7'',bq2,aaG];refine bD (I50b n q bs (b.1.v++b.2.v) A2 h) (b.1.v++b.2.v).length (by simp;omega) ⟨_,0,wac _,rfl,by show h.z<=nx2;omega,l2,⟨_,y2⟩,by simp,by and_intros<;>simp only[go_sem,simprocAttr,t0,t1,t6]⟩ ?_;clear t0 t1 t6 g7 g7' g7'' hob2 x1 x2 x4 x5 y1 y2 y4 y5 l1 l2 x3 y3;rintro jj fr H ⟨tm,m,hm,rfl,hn2,hl2,⟨base,ap⟩,hsc,t0,t1,t6,t8,t9⟩;obtain⟨nx',lo',ob'⟩:=H;unfold abW;have hlen2:=ap.rd.len;simp only[go_sem,simprocAttr,t8,t9,hlen2];refine bj (fun hlt=>?_) (fun hge=>?_)
    ·have hlt:m<(b.1.v++b.2.v).length:=by omega
     obtain⟨x,hx⟩:∃x,(b.1.v++b.2.v)[m]?=some x:=⟨_,wO hlt⟩
     have hxm:=wS hx;have hrx:Rng x:=by
      rcases List.mem_append.1 hxm with hh|hh
      ·exact v1.all x hh
      ·exact v2.all x hh
     obtain⟨r1,r2,r3,r4⟩:=hrx;have hw3:IntKind.wrap .i64 (-1-x.i)=-1-x.i:=br _ (by omega) (by omega);have hw4:=aM m (by simp at hlt;omega);obtain⟨pk,pg,hp⟩:=ap.i hx;have hxi:=(hp ⟨nx',lo',ob'⟩ (fun _ _=>rfl)).1;have hxf:=(hp ⟨nx',lo',ob'⟩ (fun _ _=>rfl)).2.1;have hxl:=(hp ⟨nx',lo',ob'⟩ (fun _ _=>rfl)).2.2;by_cases hneg:x.i<0
     ·have d3:decide (x.i<0)=true:=HE hneg;simp only[go_sem,simprocAttr,Vd,t0,t8,t9,hxi,hxf,hxl,d3,hw3];refine bj (fun hge=>?_) (fun hlt'=>?_)
      ·simp only[go_sem,simprocAttr,t6];have hno:¬Okb n b:=fun ok=>by
        rcases List.mem_append.1 hxm with hh|hh
        ·have:=ok.s1 x hh hneg;omega
        ·have:=ok.s2 x hh hneg;omega
       refine ez (.inr rfl) hl2 hn2 (by simp only[go_sem,simprocAttr,r50];rfl) ?_;show isC n bs (AG.frz 4 _ _ (.tup [wt (q:Int),wt 24]));rw[cZ];simp only[List.map_cons,List.map_nil,bY];exact zE hbq hno (by decide)
      ·simp only[go_sem,simprocAttr,t9,hw4];exact⟨jj-1,by omega,_,m+1,by omega,rfl,hn2,hl2,⟨_,ap⟩,qN hx hsc (fun _=>by omega),by and_intros<;>simp only[go_sem,simprocAttr,t0,t1,t6,t8]⟩
     ·have d3:decide (x.i<0)=false:=HD hneg;simp only[go_sem,simprocAttr,Vd,t8,t9,hxi,hxf,hxl,d3,hw4];exact⟨jj-1,by omega,_,m+1,by omega,rfl,hn2,hl2,⟨_,ap⟩,qN hx hsc (fun hh=>absurd hh hneg),by and_intros<;>simp only[go_sem,simprocAttr,t0,t1,t6,t8]⟩
    ·have hme:m=(b.1.v++b.2.v).length:=by omega
     subst hme;rw[List.take_length]at hsc;simp only[go_sem,simprocAttr,t6,hw2];refine⟨j-1,by omega,_,q+1,by omega,rfl,hn2,hl2,qN hbq hok ⟨v1,v2,fun x hx=>hsc x (List.mem_append.2 (.inl hx)),fun x hx=>hsc x (List.mem_append.2 (.inr hx))⟩,by and_intros<;>simp only[go_sem,simprocAttr,t0,t1]⟩
   ·rw[yZ v1]at e1;rw[LS v2]at e2;simp only[go_sem,simprocAttr,Mj,t1,t6,ia];rw[<-hob2];simp only[go_sem,simprocAttr,Mk,g7,e1,e2,t6];refine ez (.inr rfl) (by(repeat' (first|assumption|exact Fv _|apply bo))<;>omega) (by show h.z<=nx+1;omega) (by simp only[go_sem,simprocAttr,r50];rfl) ?_;show isC n bs (AG.frz 4 _ _ (.tup [wt (q:Int),wt 3]));rw[cZ];simp only[List.map_cons,List.map_nil,bY];exact zE hbq (fun ok=>v2 ok.v2) (by decide)
  ·rw[LS v1]at e1;simp only[go_sem,simprocAttr,Mj,t1,t6,ia];rw[<-hob2];simp only[go_sem,simprocAttr,Mk,g7,e1,t6];refine ez (.inr rfl) (by(repeat' (first|assumption|exact Fv _|apply bo))<;>omega) (by show h.z<=nx+1;omega) (by simp only[go_sem,simprocAttr,r50];rfl) ?_;show isC n bs (AG.frz 4 _ _ (.tup [wt (q:Int),wt 3]));rw[cZ];simp only[List.map_cons,List.map_nil,bY];exact zE hbq (fun ok=>v1 ok.v1) (by decide)
 ·have hme:q=bs.length:=by omega
  subst hme;rw[List.take_length]at hok;simp only[go_sem,simprocAttr,aaE];refine ez (.inr rfl) hl1 hn1 (by simp only[go_sem,simprocAttr,r50];rfl) ?_;show isC n bs (AG.frz 4 _ _ (.tup [wt 0,wt 0]));rw[cZ];simp only[List.map_cons,List.map_nil,bY];exact⟨0,0,rfl,fun _=>hok,fun _=>⟨rfl,rfl⟩⟩
theorem c50 {K:aG}(hK:jR K)(hv:KV K)(m0:Nat)(n:Nat)(bs:List (LL×LL))(h:AH)(hn:n<=30)(hbl:bs.length<=100)(hb:∀b∈bs,b.1.v.length<=10/\b.2.v.length<=10):
  ∃v nx,h.z<=nx/\cK K (m0+1) (.fn 50 [] []) [wt (n:Int),.ls (bs.map cQ)] .no h=some (.ret v,.no,⟨nx,h.low,h.objs⟩)/\isC n bs v:=by
 rw[eV hK _ 50];obtain⟨v,h',e,g⟩:=ad1 hv m0 n bs h hn hbl hb;obtain⟨nx,g1,rfl⟩:=iH g;exact⟨v,nx,g1,e,g.1⟩
def abg:=sr [oq 1 (.build [(wt 0),(wt 0),(wt 0),(wt 0),(.bool false)] [(3,1,(xn 1000))]),oq 2 (.box 5 (.t 1)),qm 0 2] .ret
def b16:=sr [oq 0 (.mv (.c .nilp))] abg
def r16:List bF:=[(.tmp 0)]
theorem cf16:EF.cf 16=some ⟨3,r16,b16⟩:=by kernel_rfl
attribute [local go_sem] dB bJ bk bS bR ca
