/- SolverFinishes: number, Plus of the reference (no condition). -/
import Derived.Test.YtnacljdablhbgaaGreatDc
namespace Go.Proofs.YtnacljdablhbgaaGreat
open Go.AG
attribute [local go_sem] dB bJ bk bS bR
theorem adq {base fb nx nx' lo lo':Nat}{ob ob':Tr eI}{v:AV}{vs:List LV}(o:Own base 2 true ⟨nx,lo,ob⟩ v (vs.map encV))(hfb:fb<=base)(hn:nx<=nx')(hk:∀k,base<=k->ob'.get k=ob.get k)(c:Int)(m:Nat):Lv (.agg [wt c,AG.frz (m+2) ⟨nx',lo',ob'⟩ fb v]) ⟨c,vs⟩:=by
 rcases own_frzB (m:=m+1) (fb:=fb) (bp (h':=⟨nx',lo',ob'⟩) o hn (fun k h1 _=>hk k h1)) hfb (fun e=>by cases e) (fun x hx=>by obtain⟨y,_,rfl⟩:=List.mem_map.1 hx;exact vJ _ _ _ _) with⟨_,e0,ef⟩|ef
 ·rw[ef];have e0:vs=[]:=by simpa using e0
  rw[e0];exact iR _
 ·rw[ef];exact nA _ _
theorem Ya (call:aG)(n:Nat)(c:Int)(h:AH):∃v h',dZ EF call n 242 [wt c] .no h=some (.ret v,.no,h')/\Gx (fun v=>v=.agg [wt c,.nl]) h v h':=by
 refine eU cf242 (fg _) ?_;unfold b242;simp only[go_sem,simprocAttr,Qo];refine ez (.inr rfl) (by(repeat' (first|assumption|exact Fv _|apply bo))<;>omega) (by show h.z<=h.z+1;omega) (by simp only[go_sem,simprocAttr,r242];rfl) ?_;rw[gP,cw];simp only[List.map_cons,List.map_nil,bY,fH]
def pcR (l:LL)(n:Int):Int:=if 0<l.c∨l.v.length=0 then l.c+n else 0
def upV (vs:List LV)(n:Int):List LV:=vs.map fun x=>⟨x.i,x.p+n⟩
def eu (l:LL)(n:Int):LL×Int:=cond (decide (100<pcR l n)||l.v.any fun x=>decide (100<x.p+n)) (⟨0,[]⟩,15) (⟨pcR l n,upV l.v n⟩,0)
structure J243 (l:LL)(nn:Int)(V:AV)(h0 h:AH)(m:Nat)(V':AV):Prop where
 b2:h.get h0.z=some (.box [wt l.c,V])
 b4:h.get (h0.z+1)=some (.box [wt 0,.nl])
 b6:h.get (h0.z+2)=some (.box [wt (pcR l nn),V'])
 own:Own (h0.z+3) 2 true h V' ((upV (l.v.take m) nn).map encV)
 low:h0.z<=h.low
 z:h0.z+3<=h.z
 kw:∀k,k<h0.z->h.get k=h0.get k
def I243 (l:LL)(nn:Int)(V:AV)(h0:AH)(j:Nat)(fr:AF)(h:AH):Prop:=∃tm m V',m+j=l.v.length/\fr=⟨tm,⟨[],.no,none,243⟩⟩/\J243 l nn V h0 h m V'/\
  nth tm 1=wt nn/\nth tm 2=.ptr h0.z 0 0/\nth tm 4=.ptr (h0.z+1) 0 0/\nth tm 5=wt 0/\nth tm 6=.ptr (h0.z+2) 0 0/\nth tm 7=wt (m:Int)/\∀(i:Nat) x,i<m->l.v[i]?=some x->decide (100<x.p+nn)=false
theorem XZ {K:aG}(hv:KV K)(q:Nat)(n:Nat)(l:LL)(nn:Int)(a:AV)(h:AH)(ha:Lv a l)(hvl:VL l)(hn:300<n)(hl:l.v.length<=100)(n0:0<=nn)(n1:nn<=100):
  ∃v h',dZ EF (cK K q) n 243 [a,wt nn] .no h=some (.ret v,.no,h')/\Gx (tQ (eu l nn)) h v h':=by
 have e21:=fun h=>dQ (hv.r21 a l h ha (by omega)) q
 rw[yZ hvl]at e21;obtain⟨V,rfl,a1,a2,a3,a4,a5,a6⟩:=ha.ex;refine eU cf243 (fg _) ?_;have m1:¬(h.z=h.z+1):=by omega
 have m2:¬(h.z=h.z+1+1):=by omega
 have m3:¬(h.z+1=h.z+1+1):=by omega
 have la:=(a5 0 h).len;have d1:decide (nn<0)=false:=HD (by omega);have d2:decide (100<nn)=false:=HD (by omega);obtain⟨c0,c1,rng,_,_⟩:=hvl;have hw:IntKind.wrap .i64 (l.c+nn)=l.c+nn:=br _ (by omega) (by omega);have main:∀tm ob lo,h.z<=lo->ob.get h.z=some (.box [wt l.c,V])->ob.get (h.z+1)=some (.box [wt 0,.nl])->ob.get (h.z+2)=some (.box [wt (pcR l nn),.nl])->(∀k,k<h.z->ob.get k=h.objs.get k)->
   nth tm 1=wt nn->nth tm 2=.ptr h.z 0 0->nth tm 4=.ptr (h.z+1) 0 0->nth tm 5=wt 0->nth tm 6=.ptr (h.z+2) 0 0->
   R (cK K q) n [.code FK] (HQ h Zi (Gx (tQ (eu l nn)) h)) .normal ⟨tm,⟨[],.no,none,243⟩⟩ ⟨h.z+3,lo,ob⟩:=by
  intro tm ob lo hlo g2 g4 g6 gk t1 t2 t4 t5 t6;have q1:¬(h.z+1=h.z+2):=by omega
  unfold FK;simp only[go_sem,simprocAttr,t6,g6];refine bj (fun hbig=>?_) (fun hsm=>?_)
  ·simp only[go_sem,simprocAttr,t4,g4];refine ez (.inr rfl) (by(repeat' (first|assumption|exact Fv _|apply bo))<;>omega) (by show h.z<=h.z+3;omega) (by simp only[go_sem,simprocAttr,Zi,t4];rfl) ⟨.agg [wt 0,.nl],?_,?_⟩
   ·rw[jW,cZ];simp only[List.map_cons,List.map_nil,cw,bY,fH,eu,HE hbig,Bool.true_or,cond_true]
   ·rw[show(eu l nn).1=⟨0,[]⟩ by simp only[eu,HE hbig,Bool.true_or,cond_true]];exact iR 0
  ·simp only[go_sem,simprocAttr,Qm];refine bD (I243 l nn V h) l.v.length (by omega) ⟨_,0,.nl,by omega,rfl,⟨g2,g4,g6,fD _ _ _ _,hlo,by show h.z+3<=h.z+3;omega,gk⟩,by simp only[go_sem,simprocAttr,t1],by simp only[go_sem,simprocAttr,t2],by simp only[go_sem,simprocAttr,t4],by simp only[go_sem,simprocAttr,t5],by simp only[go_sem,simprocAttr,t6],by simp only[go_sem,simprocAttr],fun i x hi=>absurd hi (by omega)⟩ ?_;rintro j fr H ⟨tm,m,V',hm,rfl,hJ,t1,t2,t4,t5,t6,t7,hp⟩;obtain⟨g2,g4,g6,own,low,nxt,keep⟩:=hJ;obtain⟨nx,lo,ob⟩:=H;have g2:ob.get h.z=some (.box [wt l.c,V]):=g2;have g4:ob.get (h.z+1)=some (.box [wt 0,.nl]):=g4;have g6:ob.get (h.z+2)=some (.box [wt (pcR l nn),V']):=g6;have low:h.z<=lo:=low;have nxt:h.z+3<=nx:=nxt;unfold TS;simp only[go_sem,simprocAttr,t7,t2,g2,la];refine bj (fun hlt=>?_) (fun hge=>?_)
   ·have hlt:m<l.v.length:=by omega
    obtain⟨x,hx⟩:∃x,l.v[m]?=some x:=⟨_,wO hlt⟩
    have ia:=a6 m x hx;have hxv:encV x=.agg [wt x.i,wt x.p]:=rfl;rw[hxv]at ia;have hw2:=aM m (by omega);obtain⟨_,_,p0,p1⟩:=rng m x hx;have hw3:IntKind.wrap .i64 (x.p+nn)=x.p+nn:=br _ (by omega) (by omega);simp only[go_sem,simprocAttr,FL,t2,t7,t1,g2,ia,hw3];refine bj (fun hbig=>?_) (fun hok=>?_)
    ·have hany:(l.v.any fun x=>decide (100<x.p+nn))=true:=rA hx (HE hbig);simp only[go_sem,simprocAttr,t4,g4];refine ez (.inr rfl) (by(repeat' (first|assumption|exact Fv _|apply bo))<;>omega) (by show h.z<=nx;omega) (by simp only[go_sem,simprocAttr,Zi,t4];rfl) ⟨.agg [wt 0,.nl],?_,?_⟩
     ·rw[jW,cZ];simp only[List.map_cons,List.map_nil,cw,bY,fH,eu,hany,Bool.or_true,cond_true]
     ·rw[show(eu l nn).1=⟨0,[]⟩ by simp only[eu,hany,Bool.or_true,cond_true]];exact iR 0
    ·obtain⟨v',h',c1,c2,c3,c4,c5,c6,c7,c8⟩:=cV (bytes:=16) (z:=[wt 0,wt 0]) own (by show h.z+3<=nx;omega) rfl (x:=encV ⟨x.i,x.p+nn⟩) rfl rfl rfl (by simp only[upV,waa,List.length_take];omega) (by omega);have c1:dO ⟨nx,lo,ob⟩ 2 true [wt 0,wt 0] 16 V' (.clip [.agg [wt x.i,wt (x.p+nn)]])=some (v',h'):=c1;rw[show(upV (l.v.take m) nn).map encV++[encV ⟨x.i,x.p+nn⟩]=(upV (l.v.take (m+1)) nn).map encV by rw[fP hx];simp[upV]]at c2;have rd:=qI c2;have hvc:=rd.cell;have hvl:=rd.lies;obtain⟨nx2,lo2,ob2⟩:=h';have c3:nx<=nx2:=c3;have c4:∀k,k<h.z+3->ob2.get k=ob.get k:=c4
     have c5:h.z<=lo2:=c5 h.z (by omega) low;have f6:ob2.get (h.z+2)=some (.box [wt (pcR l nn),V']):=(c4 _ (by omega)).trans g6;have q1:¬(h.z+1=h.z+2):=by omega
     simp only[go_sem,simprocAttr,t2,t7,t1,t6,g2,g6,ia,hw3,c1,f6,hvc,hvl,hw2];refine⟨j-1,by omega,_,m+1,v',by omega,rfl,⟨?_,?_,?_,?_,(by(repeat' (first|assumption|exact Fv _|apply bo))<;>omega),by show h.z+3<=nx2;omega,fun k hk=>?_⟩,by simp only[go_sem,simprocAttr,t1],by simp only[go_sem,simprocAttr,t2],by simp only[go_sem,simprocAttr,t4],by simp only[go_sem,simprocAttr,t5],by simp only[go_sem,simprocAttr,t6],by simp only[go_sem,simprocAttr],fun i y hi hy=>?_⟩
     ·rw[cp,Tr.cA _ _ (by omega),c4 _ (by omega)];exact g2
     ·rw[cp,Tr.cA _ _ (by omega),c4 _ (by omega)];exact g4
     ·rw[cp,Tr.cB]
     ·exact bp c2 (Fv _) fun k h1 _=>by rw[cp,Tr.cA _ _ (by omega)];rfl
     ·rw[cp,Tr.cA _ _ (by omega),c4 _ (by omega)];exact keep k hk
     ·by_cases hi':i<m
      ·exact hp i y hi' hy
      ·obtain rfl:i=m:=by omega
       rw[hx]at hy;cases hy;exact HD hok
   ·have hme:m=l.v.length:=by omega
    subst hme;rw[List.take_length]at own;have rd:=qI own;have hvc:=rd.cell;have hvl:=rd.lies;have hnone:=oD (fun i x hi hx=>hp i x hi hx);simp only[go_sem,simprocAttr,Qn,t6,g6,t4,g4];refine ez (.inr rfl) (by(repeat' (first|assumption|exact Fv _|apply bo))<;>omega) (by show h.z<=nx;omega) (by simp only[go_sem,simprocAttr,Zi,t4];rfl) ?_;have er:eu l nn=(⟨pcR l nn,upV l.v nn⟩,0):=by unfold eu;rw[hnone,HD hsm];rfl
    rw[jW,cZ,er];simp only[List.map_cons,List.map_nil,cw,bY];refine⟨_,rfl,?_⟩;exact adq own (by omega) (Fv _) (by intros;(repeat rw[Tr.cA _ _ (by omega)])) _ 0
 unfold b243;have q1:¬(h.z+1+1=h.z):=by omega
 by_cases hc:0<l.c
 ·have dc:decide (0<l.c)=true:=HE hc;have hpc:pcR l nn=l.c+nn:=wae (.inl hc);simp only[go_sem,simprocAttr,Ag,m1,m2,e21,Ah,d1,Ai,d2,Aj,Ak,dc,hw];exact main _ _ _ (by(repeat' (first|assumption|exact Fv _|apply bo))<;>omega) (by simp only[go_sem,simprocAttr,m2,m1]) (by simp only[go_sem,simprocAttr,m3]) (by simp only[go_sem,simprocAttr,hpc]) (by intros;(repeat rw[Tr.cA _ _ (by omega)])) (by simp only[go_sem,simprocAttr]) (by simp only[go_sem,simprocAttr]) (by simp only[go_sem,simprocAttr]) (by simp only[go_sem,simprocAttr]) (by simp only[go_sem,simprocAttr])
 ·have dc:decide (0<l.c)=false:=HD hc;by_cases hz:l.v.length=0
  ·have dz:decide ((l.v.length:Int)=0)=true:=HE (by omega);have hpc:pcR l nn=l.c+nn:=wae (.inr hz);simp only[go_sem,simprocAttr,Ag,m1,m2,e21,Ah,d1,Ai,d2,Aj,Ak,dc,hw,la,dz];exact main _ _ _ (by(repeat' (first|assumption|exact Fv _|apply bo))<;>omega) (by simp only[go_sem,simprocAttr,m2,m1]) (by simp only[go_sem,simprocAttr,m3]) (by simp only[go_sem,simprocAttr,hpc]) (by intros;(repeat rw[Tr.cA _ _ (by omega)])) (by simp only[go_sem,simprocAttr]) (by simp only[go_sem,simprocAttr]) (by simp only[go_sem,simprocAttr]) (by simp only[go_sem,simprocAttr]) (by simp only[go_sem,simprocAttr])
  ·have dz:decide ((l.v.length:Int)=0)=false:=HD (by omega);have hpc:pcR l nn=0:=wad (fun e=>e.elim hc hz);simp only[go_sem,simprocAttr,Ag,m1,m2,e21,Ah,d1,Ai,d2,Aj,Ak,dc,la,dz];exact main _ _ _ (by(repeat' (first|assumption|exact Fv _|apply bo))<;>omega) (by simp only[go_sem,simprocAttr,m2,m1]) (by simp only[go_sem,simprocAttr,m3]) (by simp only[go_sem,simprocAttr,hpc]) (by intros;(repeat rw[Tr.cA _ _ (by omega)])) (by simp only[go_sem,simprocAttr]) (by simp only[go_sem,simprocAttr]) (by simp only[go_sem,simprocAttr]) (by simp only[go_sem,simprocAttr]) (by simp only[go_sem,simprocAttr])
attribute [local go_sem] dB bJ bk bS bR
theorem c242 {K:aG}(hK:jR K)(m:Nat)(c:Int)(h:AH):∃nx,h.z<=nx/\cK K (m+1) (.fn 242 [] []) [wt c] .no h=some (.ret (.agg [wt c,.nl]),.no,⟨nx,h.low,h.objs⟩):=by
 rw[eV hK _ 242];obtain⟨v,h',e,g⟩:=Ya (cK K m) 30000 c h;obtain⟨nx,g1,rfl⟩:=iH g;obtain⟨rfl,_⟩:=g;exact⟨nx,g1,e⟩
theorem c202 {K:aG}(hK:jR K)(m:Nat)(a b:LL)(va vb:AV)(h:AH)(ha:Lv va a)(hb:Lv vb b)(l1:a.v.length<=400)(l2:b.v.length<=400):
  ∃v nx,h.z<=nx/\cK K (m+1) (.fn 202 [] []) [va,vb] .no h=some (.ret v,.no,⟨nx,h.low,h.objs⟩)/\Lv v (gq a b):=by
 rw[eV hK _ 202];obtain⟨v,h',e,g⟩:=Ye (cK K m) 30000 a b va vb h ha hb (by omega) l1 l2;obtain⟨nx,g1,rfl⟩:=iH g;exact⟨v,nx,g1,e,g.1⟩
theorem c243 {K:aG}(hK:jR K)(hv:KV K)(m:Nat)(l:LL)(nn:Int)(a:AV)(h:AH)(ha:Lv a l)(hvl:VL l)(hl:l.v.length<=100)(n0:0<=nn)(n1:nn<=100):
  ∃v nx,h.z<=nx/\cK K (m+1) (.fn 243 [] []) [a,wt nn] .no h=some (.ret v,.no,⟨nx,h.low,h.objs⟩)/\tQ (eu l nn) v:=by
 rw[eV hK _ 243];obtain⟨v,h',e,g⟩:=XZ hv m 30000 l nn a h ha hvl (by omega) hl n0 n1;obtain⟨nx,g1,rfl⟩:=iH g;exact⟨v,nx,g1,e,g.1⟩
def I200 (V:AV)(ls:List LL)(b:Nat)(ob:Tr eI)(j:Nat)(fr:AF)(h:AH):Prop:=∃tm m,m+j=ls.length/\fr=⟨tm,⟨[],.no,none,200⟩⟩/\h=⟨b,b,ob⟩/\nth tm 0=V/\nth tm 3=wt (m:Int)
theorem c200 {K:aG}(hK:jR K)(hv:KV K)(m:Nat)(V:AV)(ls:List LL)(h:AH)(hV:RdL h.z h V ls)(hl:ls.length<30000)(hx:∀x∈ls,VL x/\x.v.length<=100):
  ∃nx,h.z<=nx/\cK K (m+1) (.fn 200 [] []) [V] .no h=some (.ret (.bool true),.no,⟨nx,h.low,h.objs⟩):=by
 rw[eV hK _ 200];have key:∃v h',dZ EF (cK K m) 30000 200 [V] .no h=some (.ret v,.no,h')/\Gx (fun v=>v=.bool true) h v h':=by
  refine eU cf200 (fg _) ?_;unfold b200;have hlen:=hV.len;simp only[go_sem,simprocAttr,QJ];refine bD (I200 V ls h.z h.objs) ls.length (by omega) ⟨_,0,wac _,rfl,rfl,by and_intros<;>simp only[go_sem,simprocAttr]⟩ ?_;rintro j fr H ⟨tm,q,hm,rfl,rfl,t0,t3⟩;unfold TW;simp only[go_sem,simprocAttr,t0,t3,hlen];refine bj (fun hlt=>?_) (fun hge=>?_)
  ·have hlt:q<ls.length:=by omega
   have hget:ls[q]?=some ls[q]:=wO hlt;obtain⟨p',a,hla,hp'⟩:=hV.get q _ hget;have ha:=(hp' ⟨h.z,h.z,h.objs⟩ (fun _ _=>rfl)).1;have hb:=(hp' ⟨h.z,h.z,h.objs⟩ (fun _ _=>rfl)).2;have hw2:=aM q (by omega);obtain⟨hvx,hxl⟩:=hx _ (List.getElem_mem hlt);have e21:=fun h=>dQ (hv.r21 a _ h hla (by omega)) m
   rw[yZ hvx]at e21;simp only[go_sem,simprocAttr,QL,t0,t3,ha,hb,e21,hw2];exact⟨j-1,by omega,_,q+1,by omega,rfl,rfl,by and_intros<;>simp only[go_sem,simprocAttr,t0]⟩
  ·simp only[go_sem,simprocAttr,QK];exact ez (.inr rfl) (Fv _) (Fv _) (by simp only[go_sem,simprocAttr,r200];rfl) (by rw[gP,eN])
 obtain⟨v,h',e,g⟩:=key;obtain⟨nx,g1,rfl⟩:=iH g;obtain⟨rfl,_⟩:=g;exact⟨nx,g1,e⟩
theorem hT:∀xs ys:List LV,(bK xs ys).length<=xs.length+ys.length
 |[],ys=>by simp[bK]
 |x::xs,[]=>by simp[bK]
 |x::xs,y::ys=>by
  have h1:=hT xs (y::ys);have h2:=hT (x::xs) ys;have h3:=hT xs ys;rw[bK];split
  ·simp at *;omega
  ·split<;>(simp at *;omega)
termination_by xs ys=>xs.length+ys.length
def fy (vals:List LL)(s:Option LL)(x:LV):Option LL:=match s with
 |none=>none
 |some out=>if x.i<0/\-1-x.i<(vals.length:Int) then
   match vals[(-1-x.i).toNat]? with
   |some y=>if (eu y x.p).2=0 then some (gq out (eu y x.p).1) else none
   |none=>some out
  else some (gq out ⟨0,[x]⟩)
def repS (l:LL)(vals:List LL):Option LL:=l.v.foldl (fy vals) (some ⟨l.c,[]⟩)
def dX (l:LL)(vals:List LL):LL×Int:=match repS l vals with
 |some r=>(r,0)
 |none=>(⟨0,[]⟩,15)
theorem vk (vals:List LL)(vs:List LV):vs.foldl (fy vals) none=none:=by
 induction vs with
 |nil=>rfl
 |cons x vs ih=>exact ih
theorem plusR_err (l:LL)(n:Int):(eu l n).2=0∨(eu l n).2=15:=by
 unfold eu;cases (decide (100<pcR l n)||l.v.any fun x=>decide (100<x.p+n))<;>simp
attribute [local go_sem] dB bJ bk bS bR
theorem rB (c:Int)(x:LV):Lv (.agg [wt c,.clip [.agg [wt x.i,wt x.p]]]) ⟨c,[x]⟩:=by
 have hia:∀(i:Nat) y,[x][i]?=some y->∀h,cz (.clip [.agg [wt x.i,wt x.p]]) h 2 (wt (i:Int))=.val (.vptr (encV y)) h:=by
  intro i y e h;cases i with
  |zero=>cases e;rfl
  |succ i=>simp at e
 refine⟨⟨_,rfl,by simp[AV.norm,AV.ip,encV],rfl,rfl,fun m h b=>qX m b _,fun b h=>⟨fun h=>rfl,fun i y e=>⟨.vptr (encV y),fun H _=>⟨hia i y e H,gN true 2 rfl rfl⟩⟩,rfl,rfl,fun m h b' _=>qX m b' _⟩,hia⟩,fun V e=>?_⟩;cases e;exact⟨⟨fun _=>rfl,hia,fun h _=>(Pz (es:=[encV x]) (.inr rfl) (fun y hy=>by simp at hy;subst hy;rfl) h (by simp)).trans rfl,rfl,rfl,fI (by simp[AV.free,AV.jp])⟩,fun _=>rfl⟩
theorem ca (h:AH)(x y:AV):cP h [wt 0,.nl] [(1,1,.clip [.agg [x,y]])]=.val (.agg [wt 0,.clip [.agg [x,y]]]) h:=(rfl)
theorem sn (l:LL)(n:Int):(eu l n).1.v.length<=l.v.length:=by
 unfold eu;cases (decide (100<pcR l n)||l.v.any fun x=>decide (100<x.p+n))<;>simp[upV]
structure J201 (l:LL)(W:AV)(kO:Nat)(h0 h:AH)(out:LL)(a:AV):Prop where
 b3:h.get h0.z=some (.box [wt l.c,W])
 b6:h.get (h0.z+1)=some (.box [wt 0,.nl])
 b8:h.get kO=some (.box a.cells)
 lv:Lv a out
 lk:h0.z+2<=kO
 lo:kO<h.z
 low:h0.z<=h.low
 kw:∀k,k<h0.z->h.get k=h0.get k
def I201 (l:LL)(vals:List LL)(V W:AV)(kO:Nat)(h0:AH)(j:Nat)(fr:AF)(h:AH):Prop:=∃tm m out a,m+j=l.v.length/\fr=⟨tm,⟨[],.no,none,201⟩⟩/\J201 l W kO h0 h out a/\
  (l.v.take m).foldl (fy vals) (some ⟨l.c,[]⟩)=some out/\out.v.length<=9*m/\
  nth tm 1=V/\nth tm 2=.bool true/\nth tm 3=.ptr h0.z 0 0/\nth tm 6=.ptr (h0.z+1) 0 0/\nth tm 7=wt 0/\nth tm 8=.ptr kO 0 0/\nth tm 9=wt (m:Int)
theorem Yf {K:aG}(hK:jR K)(hv:KV K)(m0:Nat)(a:AV)(l:LL)(V:AV)(vals:List LL)(h:AH)(ha:Lv a l)(hV:RdL h.z h V vals)(h1:l.v.length<=20)(_h2:vals.length<30000)(h3:∀y∈vals,y.v.length<=9)(hvl:VL l)(hvs:∀y∈vals,VL y):
  ∃v h',dZ EF (cK K (m0+2)) 30000 201 [a,V,.bool true] .no h=some (.ret v,.no,h')/\Gx (tQ (dX l vals)) h v h':=by
 obtain⟨W,rfl,hn,hc,hli,hfz,hr,hia⟩:=ha.ex;refine eU abD (fg _) ?_;have n1:¬(h.z=h.z+1):=by omega
 unfold aeY;obtain⟨ob,hob⟩:∃ob,ob=(h.objs.put h.z (.box [wt l.c,W])).put (h.z+1) (.box [wt 0,.nl]):=⟨_,rfl⟩
 obtain⟨nx1,g1,e242⟩:=c242 hK (m0+1) l.c ⟨h.z+1+1,h.z,ob⟩;have g1:h.z+1+1<=nx1:=g1;simp only[go_sem,simprocAttr,FO,n1];rw[<-hob];simp only[go_sem,simprocAttr,e242,FP];refine bD (I201 l vals V W nx1 h) l.v.length (by omega) ⟨_,0,⟨l.c,[]⟩,.agg [wt l.c,.nl],wac _,rfl,⟨?_,?_,?_,iR _,by omega,?_,(by(repeat' (first|assumption|exact Fv _|apply bo))<;>omega),?_⟩,rfl,by simp,by and_intros<;>simp only[go_sem,simprocAttr]⟩ ?_
 ·rw[cp,Tr.cA _ _ (by omega),Tr.cA _ _ (by omega),hob,Tr.cA _ _ (by omega),Tr.cB]
 ·rw[cp,Tr.cA _ _ (by omega),Tr.cA _ _ (by omega),hob,Tr.cB]
 ·rw[cp,Tr.cB];rfl
 ·show nx1<nx1+1;omega
 ·intro k hk;rw[cp,Tr.cA _ _ (by omega),Tr.cA _ _ (by omega),hob,Tr.cA _ _ (by omega),Tr.cA _ _ (by omega)];rfl
 rintro j fr H ⟨tm,q,out,a,hq,rfl,hJ,hf,hlen,t1,t2,t3,t6,t7,t8,t9⟩;obtain⟨g3,g6,g8,lv,lk,lo,low,keep⟩:=hJ;obtain⟨nx,l0,ob2⟩:=H;have g3:ob2.get h.z=some (.box [wt l.c,W]):=g3;have g6:ob2.get (h.z+1)=some (.box [wt 0,.nl]):=g6;have g8:ob2.get nx1=some (.box a.cells):=g8;have lo:nx1<nx:=lo;have low:h.z<=l0:=low;have la:=(hr 0 h).len;have lav:=hV.len;unfold Hk;simp only[go_sem,simprocAttr,t9,t3,g3,la];refine bj (fun hlt=>?_) (fun hge=>?_)
 ·have hlt:q<l.v.length:=by omega
  obtain⟨x,hx⟩:∃x,l.v[q]?=some x:=⟨_,wO hlt⟩
  have ia:=hia q x hx;have hxv:encV x=.agg [wt x.i,wt x.p]:=rfl;rw[hxv]at ia;have hw2:=aM q (by omega);obtain⟨r1,r2,r3,r4⟩:=hvl.rng q x hx;have hw3:IntKind.wrap .i64 (-1-x.i)=-1-x.i:=br _ (by omega) (by omega);have m1:¬(h.z=nx):=by omega
  have m2:¬(nx=nx+1):=by omega
  have m3:¬(nx+1=nx):=by omega
  have m4:¬(nx1=nx):=by omega
  have m5:¬(nx1=nx+1):=by omega
  have hfold:(l.v.take (q+1)).foldl (fy vals) (some ⟨l.c,[]⟩)=fy vals (some out) x:=by
   rw[fP hx,List.foldl_append,hf];rfl
  have fin:∀(pa:AV) (p:LL) tm' lo' ob' nx' (z8:AV),z8=.ptr nx1 0 0->Lv pa p->p.v.length<=9->fy vals (some out) x=some (gq out p)->nx+2<=nx'->h.z<=lo'->ob'.get (nx+1)=some (.box pa.cells)->(∀k,k<nx->ob'.get k=ob2.get k)->
    nth tm' 1=V->nth tm' 2=.bool true->nth tm' 3=.ptr h.z 0 0->nth tm' 6=.ptr (h.z+1) 0 0->nth tm' 7=wt 0->nth tm' 8=.ptr nx1 0 0->nth tm' 9=wt (q:Int)->nth tm' 12=.ptr (nx+1) 0 0->
    sR (cK K (m0+2)) 30000 (okV (dH z8 ⟨nx',lo',ob'⟩ true 2) ⟨nx',lo',ob'⟩) (some 65) [⟨some 66,.load true 2 (.t 12),none⟩,⟨some 67,.call (.c (.fn 202 [] [])) [.t 65,.t 66],none⟩,⟨none,.store 2 (.t 8) (.t 67),none⟩] [.out 1,.code (.region [⟨some 23,.mv (.t 9),none⟩,⟨some 24,.bin .add .num (.t 23) (.c (wt 1)),none⟩,⟨some 9,.mv (.t 24),none⟩])] (LQ (cK K (m0+2)) 30000 (I201 l vals V W nx1 h) j [.out 0,.code wE] (HQ h MG (Gx (tQ (dX l vals)) h))) tm' ⟨[],.no,none,201⟩ ⟨nx',lo',ob'⟩:=by
   intro pa p tm' lo' ob' nx' z8 hz8 hp hpl hrep hnx hlo hpo hk u1 u2 u3 u6 u7 u8 u9 u12;obtain⟨v,nx2,w1,w2,w3⟩:=c202 hK (m0+1) out p a pa ⟨nx',lo',ob'⟩ lv hp (by omega) (by omega);have w1:nx'<=nx2:=w1;obtain⟨A1,ea,_,_,_,_,_,_⟩:=lv.ex;obtain⟨A2,ep,_,_,_,_,_,_⟩:=hp.ex;obtain⟨A3,ev,_,ev1,ev2,_,_,_⟩:=w3.ex;have hpo':ob'.get nx1=some (.box [wt out.c,A1]):=by rw[hk _ lo,g8,ea];rfl
   have hpo:ob'.get (nx+1)=some (.box [wt p.c,A2]):=by rw[hpo,ep];rfl
   have w2:cK K (m0+2) (.fn 202 [] []) [.agg [wt out.c,A1],.agg [wt p.c,A2]] .no ⟨nx',lo',ob'⟩=some (.ret (.agg [wt (gq out p).c,A3]),.no,⟨nx2,lo',ob'⟩):=by rw[<-ea,<-ep,<-ev];exact w2
   subst hz8;simp only[go_sem,simprocAttr,u8,u12,hpo',hpo,w2,u9,hw2];refine⟨j-1,by omega,_,q+1,gq out p,.agg [wt (gq out p).c,A3],by omega,rfl,⟨?_,?_,?_,by rw[<-ev];exact w3,lk,by show nx1<nx2;omega,(by(repeat' (first|assumption|exact Fv _|apply bo))<;>omega),fun k hk'=>?_⟩,by rw[hfold,hrep],?_,by and_intros<;>simp only[go_sem,simprocAttr,u1,u2,u3,u6,u7,u8]⟩
   ·rw[cp,Tr.cA _ _ (by omega),hk _ (by omega)];exact g3
   ·rw[cp,Tr.cA _ _ (by omega),hk _ (by omega)];exact g6
   ·rw[cp,Tr.cB];rfl
   ·rw[cp,Tr.cA _ _ (by omega),hk _ (by omega)];exact keep k hk'
   ·have:=hT out.v p.v;show(bK out.v p.v).length<=_;omega
  obtain⟨ob3,hob3⟩:∃ob3,ob3=(((ob2.put nx (.box [wt 0,wt 0])).put nx (.box [wt x.i,wt x.p])).put (nx+1) (.box [wt 0,.nl])).put (nx+1) (.box [wt 0,.clip [.agg [wt x.i,wt x.p]]]):=⟨_,rfl⟩
  have k3:∀k,k<nx->ob3.get k=ob2.get k:=fun k hk=>by rw[hob3,Tr.cA _ _ (by omega),Tr.cA _ _ (by omega),Tr.cA _ _ (by omega),Tr.cA _ _ (by omega)]
  have k3x:ob3.get nx=some (.box [wt x.i,wt x.p]):=by rw[hob3,Tr.cA _ _ (by omega),Tr.cA _ _ (by omega),Tr.cB]
  have k3p:ob3.get (nx+1)=some (.box [wt 0,.clip [.agg [wt x.i,wt x.p]]]):=by rw[hob3,Tr.cB]
  have b1:mR (.bool true) .eql .boolK (.bool true)=some (.bool true):=rfl;have b2:mR (.bool false) .eql .boolK (.bool true)=some (.bool false):=rfl;by_cases hneg:x.i<0
  ·have d1:decide (x.i<0)=true:=HE hneg;by_cases hin : -1-x.i<(vals.length:Int)
   ·have d2:decide (-1-x.i<(vals.length:Int))=true:=HE hin;obtain⟨i,hi⟩:∃i:Nat,-1-x.i=(i:Int):=⟨(-1-x.i).toNat,by omega⟩
    have hil:i<vals.length:=by omega
    have hgi:vals[i]?=some vals[i]:=wO hil;obtain⟨p2,a2,hla,hp2⟩:=hV.get i _ hgi;have hkk:∀lo',∀k,k<h.z->AH.get ⟨nx+1+1+1,lo',ob3.put (nx+1+1) (.box [wt 0,.nl])⟩ k=h.get k:=fun lo' k hk=>by
     rw[cp,Tr.cA _ _ (by omega),k3 k (by omega)];exact keep k hk
    have hc1:=fun lo'=>(hp2 ⟨nx+1+1+1,lo',ob3.put (nx+1+1) (.box [wt 0,.nl])⟩ (hkk lo')).1
    have hc2:=fun lo'=>(hp2 ⟨nx+1+1+1,lo',ob3.put (nx+1+1) (.box [wt 0,.nl])⟩ (hkk lo')).2
    rw[<-hi]at hc1;obtain⟨v9,nx9,w1,w2,a9,rfl,w3⟩:=c243 hK hv (m0+1) vals[i] x.p a2 ⟨nx+1+1+1,gz (nx+1) (gz nx l0),ob3.put (nx+1+1) (.box [wt 0,.nl])⟩ hla (hvs _ (List.getElem_mem hil)) (by have:=h3 _ (List.getElem_mem hil);omega) r3 r4;have w1:nx+1+1+1<=nx9:=w1;obtain⟨A9,e9,_,e9c,e9l,_,_,_⟩:=w3.ex;have m6:¬(nx=nx+1+1):=by omega
    have m7:¬(nx+1=nx+1+1):=by omega
    have m8:¬(nx+1+1=nx+1):=by omega
    have m9:¬(h.z+1=nx+1+1):=by omega
    rw[e9]at w2;simp only[go_sem,simprocAttr,qD,t3,g3,t9,ia,qE,qF,t2,hw3,qG,ca];rw[<-hob3];simp only[go_sem,simprocAttr,qH,k3x,t2,d1,b1,t1,lav,d2,hc1,hc2,m6,w2];rcases plusR_err vals[i] x.p with herr|herr
    ·have hz:decide ((eu vals[i] x.p).2=0)=true:=HE herr;simp only[go_sem,simprocAttr,hz,k3p,m7];refine fin a9 (eu vals[i] x.p).1 _ _ _ _ _ t8 w3 ?_ ?_ (by omega) (by(repeat' (first|assumption|exact Fv _|apply bo))<;>omega) ?_ ?_ (by simp only[go_sem,simprocAttr,t1]) (by simp only[go_sem,simprocAttr,t2]) (by simp only[go_sem,simprocAttr,t3]) (by simp only[go_sem,simprocAttr,t6]) (by simp only[go_sem,simprocAttr,t7]) (by simp only[go_sem,simprocAttr,t8]) (by simp only[go_sem,simprocAttr,t9]) (by simp only[go_sem,simprocAttr])
     ·have:=sn vals[i] x.p;have:=h3 _ (List.getElem_mem hil);omega
     ·unfold fy;show(if x.i<0/\-1-x.i<(vals.length:Int) then _ else _)=_;rw[wae ⟨hneg,hin⟩,hi,Int.toNat_natCast,hgi];exact wae herr
     ·rw[Tr.cB,e9];rfl
     ·intro k hk;rw[Tr.cA _ _ (by omega),Tr.cA _ _ (by omega),Tr.cA _ _ (by omega)];exact k3 k hk
    ·have hz:decide ((eu vals[i] x.p).2=0)=false:=HD (by omega);have g6':ob3.get (h.z+1)=some (.box [wt 0,.nl]):=(k3 _ (by omega)).trans g6;simp only[go_sem,simprocAttr,hz,t6,m9,g6'];refine ez (.inr rfl) (by(repeat' (first|assumption|exact Fv _|apply bo))<;>omega) (by show h.z<=nx9;omega) (by simp only[go_sem,simprocAttr,MG,t6];rfl) ⟨.agg [wt 0,.nl],?_,?_⟩
     all_goals have hrn:repS l vals=none:=(by
      unfold repS;rw[<-List.take_append_drop (q+1) l.v,List.foldl_append,hfold];have:fy vals (some out) x=none:=(by
       unfold fy;show(if x.i<0/\-1-x.i<(vals.length:Int) then _ else _)=_;rw[wae ⟨hneg,hin⟩,hi,Int.toNat_natCast,hgi];exact wad (by omega))
      rw[this];exact vk vals _)
     ·rw[jW,cZ,show dX l vals=(⟨0,[]⟩,15) by unfold dX;rw[hrn]];simp only[List.map_cons,List.map_nil,cw,bY,fH,herr]
     ·rw[show(dX l vals).1=⟨0,[]⟩ by unfold dX;rw[hrn]];exact iR 0
   ·have d2:decide (-1-x.i<(vals.length:Int))=false:=HD hin;simp only[go_sem,simprocAttr,qD,t3,g3,t9,ia,qE,qF,t2,hw3,qG,ca];rw[<-hob3];simp only[go_sem,simprocAttr,qH,k3x,t2,d1,b1,t1,lav,d2];exact fin (.agg [wt 0,.clip [.agg [wt x.i,wt x.p]]]) ⟨0,[x]⟩ _ _ _ _ _ t8 (rB 0 x) (by simp) (by unfold fy;exact wad (fun e=>hin e.2)) (by omega) (by(repeat' (first|assumption|exact Fv _|apply bo))<;>omega) k3p k3 (by simp only[go_sem,simprocAttr,t1]) (by simp only[go_sem,simprocAttr,t2]) (by simp only[go_sem,simprocAttr,t3]) (by simp only[go_sem,simprocAttr,t6]) (by simp only[go_sem,simprocAttr,t7]) (by simp only[go_sem,simprocAttr,t8]) (by simp only[go_sem,simprocAttr,t9]) (by simp only[go_sem,simprocAttr])
  ·have d1:decide (x.i<0)=false:=HD hneg;simp only[go_sem,simprocAttr,qD,t3,g3,t9,ia,qE,qF,t2,hw3,qG,ca];rw[<-hob3];simp only[go_sem,simprocAttr,qH,k3x,t2,d1,b2];exact fin (.agg [wt 0,.clip [.agg [wt x.i,wt x.p]]]) ⟨0,[x]⟩ _ _ _ _ _ t8 (rB 0 x) (by simp) (by unfold fy;exact wad (fun e=>hneg e.1)) (by omega) (by(repeat' (first|assumption|exact Fv _|apply bo))<;>omega) k3p k3 (by simp only[go_sem,simprocAttr,t1]) (by simp only[go_sem,simprocAttr,t2]) (by simp only[go_sem,simprocAttr,t3]) (by simp only[go_sem,simprocAttr,t6]) (by simp only[go_sem,simprocAttr,t7]) (by simp only[go_sem,simprocAttr,t8]) (by simp only[go_sem,simprocAttr,t9]) (by simp only[go_sem,simprocAttr])
 ·have hme:q=l.v.length:=by omega
  subst hme;rw[List.take_length]at hf;obtain⟨A1,ea,_,ea1,ea2,ea3,_,_⟩:=lv.ex;have g8:ob2.get nx1=some (.box [wt out.c,A1]):=by rw[g8,ea];rfl
  simp only[go_sem,simprocAttr,wE,t8,g8,t6,g6];refine ez (.inr rfl) (by(repeat' (first|assumption|exact Fv _|apply bo))<;>omega) (by show h.z<=nx;omega) (by simp only[go_sem,simprocAttr,MG,t6];rfl) ?_;have er:dX l vals=(out,0):=by unfold dX repS;rw[hf]
  rw[jW,cZ,er];simp only[List.map_cons,List.map_nil,cw,bY,ea3];exact⟨_,rfl,by rw[<-ea];exact lv⟩
theorem c142 {K:aG}(hK:jR K)(hv:KV K)(m:Nat)(a:AV)(l:LL)(V:AV)(vals:List LL)(h:AH)(ha:Lv a l)(hV:RdL h.z h V vals)(h1:l.v.length<=20)(h2:vals.length<30000)(h3:∀y∈vals,y.v.length<=9)(hvl:VL l)(hvs:∀y∈vals,VL y):
  ∃v nx,h.z<=nx/\cK K (m+4) (.fn 142 [] []) [a,V] .no h=some (.ret v,.no,⟨nx,h.low,h.objs⟩)/\tQ (dX l vals) v:=by
 rw[eV hK _ 142];have key:∃v h',dZ EF (cK K (m+3)) 30000 142 [a,V] .no h=some (.ret v,.no,h')/\Gx (tQ (dX l vals)) h v h':=by
  have e21:=fun h=>dQ (hv.r21 a l h ha (by omega)) (m+3)
  rw[yZ hvl]at e21;have ha':=ha;obtain⟨W,rfl,hn,hc,hli,hfz,hr,hia⟩:=ha.ex;refine eU cf142 (fg _) ?_;have n1:¬(h.z=h.z+1):=by omega
  have n2:¬(h.z+1=h.z):=by omega
  unfold b142;simp only[go_sem,simprocAttr,RR,n1,e21];obtain⟨ob,hob⟩:∃ob,ob=(h.objs.put h.z (.box [wt l.c,W])).put (h.z+1) (.box [wt 0,.nl]):=⟨_,rfl⟩
  rw[<-hob];have G1:ob.get h.z=some (.box [wt l.c,W]):=by simp only[hob,go_sem,simprocAttr,n1]
  have G2:ob.get (h.z+1)=some (.box [wt 0,.nl]):=by simp only[hob,go_sem,simprocAttr]
  have G3:∀k,k<h.z->ob.get k=h.objs.get k:=fun k hk=>by rw[hob,Tr.cA _ _ (by omega),Tr.cA _ _ (by omega)]
  obtain⟨nx1,g1,e200⟩:=c200 hK hv (m+2) V vals ⟨h.z+1+1,h.z,ob⟩ (hV.mono (by show h.z<=h.z+1+1;omega) G3) h2 (fun x hx=>⟨hvs x hx,by have:=h3 x hx;omega⟩);have g1:h.z+1+1<=nx1:=g1;obtain⟨v,h',e201,g⟩:=Yf hK hv m (.agg [wt l.c,W]) l V vals ⟨nx1,h.z,ob⟩ ha' (hV.mono (by show h.z<=nx1;omega) G3) h1 h2 h3 hvl hvs;obtain⟨nx2,g2,rfl⟩:=iH g;have g2:nx1<=nx2:=g2;obtain⟨⟨a2,rfl,hla⟩,_⟩:=g;obtain⟨A2,ea,_,ea1,ea2,ea3,_,_⟩:=hla.ex;have e201:cK K (m+3) (.fn 201 [] []) [.agg [wt l.c,W],V,.bool true] .no ⟨nx1,h.z,ob⟩=some (.ret (.tup [.agg [wt (dX l vals).1.c,A2],wt (dX l vals).2]),.no,⟨nx2,h.z,ob⟩):=by
   rw[eV hK _ 201,<-ea];exact e201
  simp only[go_sem,simprocAttr,e200,RT,G1,e201,G2];refine ez (.inr rfl) (by(repeat' (first|assumption|exact Fv _|apply bo))<;>omega) (by show h.z<=nx2;omega) (by simp only[go_sem,simprocAttr,r142];rfl) ?_;rw[jW,cZ];simp only[List.map_cons,List.map_nil,cw,bY,ea3];exact⟨_,rfl,by rw[<-ea];exact hla⟩
 obtain⟨v,h',e,g⟩:=key;obtain⟨nx,g1,rfl⟩:=iH g;exact⟨v,nx,g1,e,g.1⟩
