/- SolverFinishes: Assign of the program (no condition). -/
import Derived.Test.YtnacljdablhbgaaGreatDb
namespace Go.Proofs.YtnacljdablhbgaaGreat
open Go.AG
theorem c164 {K:aG}(hK:jR K)(m:Nat)(h:AH):∃h',cK K (m+1) (.fn 164 [] []) [] .no h=some (.ret (.ptr (h.z+1) 0 0),.no,h')/\h'.z=h.z+2/\h'.low=h.low/\h'.get h.z=some (.map [])/\h'.get (h.z+1)=some (.box [.map h.z,wt 0])/\∀k,k<h.z->h'.get k=h.get k:=by
 rw[eV hK _ 164];obtain⟨v,h',e,rfl,r⟩:=Yi (cK K m) 30000 h;exact⟨h',e,r⟩
theorem aeU {K:aG}(hK:jR K)(m:Nat)(km:Nat)(L:Es)(i p:Int)(h:AH)(hm:h.get km=some (.map (mp L)))(hlt:km<h.z):
  ∃v h',cK K (m+1) (.fn 166 [] []) [.map km,wt i,wt p] .no h=some (.ret v,.no,h')/\v=.tup []/\h'.get km=some (.map (mp (fV L i p)))/\h.z<=h'.z/\(∀k,k≠km->h'.get k=h.get k)/\(∀b,b<=h.low->b<=km->b<=h'.low)/\h'.low<=h.low:=by
 rw[eV hK _ 166];exact Yg (cK K m) 30000 km L i p h hm hlt
theorem c165 {K:aG}(hK:jR K)(m:Nat)(ks km:Nat)(c:Int)(L:Es)(a:AV)(x:LL)(nn:Int)(h:AH)(hs:sb ks km c L h)(ha:Lv a x)(hl:x.v.length<30000)(b1:0<=x.c/\x.c<=1000)(b2:0<=nn/\nn<=1000)(b3:∀y∈x.v,0<=y.p/\y.p<=1000):
  ∃v h',cK K (m+2) (.fn 165 [] []) [.ptr ks 0 0,a,wt nn] .no h=some (.ret v,.no,h')/\v=.tup []/\sb ks km (max c (x.c+nn)) (tu L x.v nn) h'/\Ch ks km h h'/\h'.low<=h.low:=by
 rw[eV hK _ 165];obtain⟨V,rfl,hn,hc,hli,hfz,hr,hia⟩:=ha.ex;exact Yh (cK K (m+1)) 30000 ks km c L x.c V x.v nn h hs (hr _ _) hr hl hl b1 b2 b3 (fun L i p h=>aeU hK m km L i p h)
theorem Cf (L:Es)(k v:Int):(tt L k v).length<=L.length+1:=by
 induction L with
 |nil=>simp[tt]
 |cons e L ih=>
  rw[tt];split
  ·simp
  ·simp;omega
theorem ui (L:Es)(k p:Int):(fV L k p).length<=L.length+1:=by
 unfold fV;split
 ·split
  ·exact Cf _ _ _
  ·omega
 ·exact Cf _ _ _
theorem Dd (n:Int):∀(vs:List LV) (L:Es),(tu L vs n).length<=L.length+vs.length
 |[],L=>by simp[tu]
 |x::vs,L=>by
  have:=Dd n vs (fV L x.i (x.p+n));have:=ui L x.i (x.p+n);show(tu (fV L x.i (x.p+n)) vs n).length<=_;simp;omega
def cW (vals:List LL)(s:Int×Es)(x:LV):Int×Es:=
 if 0<=-1-x.i/\-1-x.i<(vals.length:Int) then
  match vals[(-1-x.i).toNat]? with
  |some y=>(max s.1 (y.c+x.p),tu s.2 y.v x.p)
  |none=>s
 else (s.1,fV s.2 x.i x.p)
def FB (l:LL)(vals:List LL):Int×Es:=l.v.foldl (cW vals) (l.c,[])
def acE (l:LL)(vals:List LL):LL×Int:=tW (FB l vals).1 (FB l vals).2
theorem Ez {vals:List LL}{s:Int×Es}{x:LV}(hv:∀y∈vals,y.v.length<=50):(cW vals s x).2.length<=s.2.length+50:=by
 unfold cW;split
 ·split
  ·rename_i y hy;have:=Dd x.p y.v s.2;have:=hv y (wS hy);show(tu s.2 y.v x.p).length<=_;omega
  ·omega
 ·have:=ui s.2 x.i x.p;show(fV s.2 x.i x.p).length<=_;omega
theorem Dc {vals:List LL}(hv:∀y∈vals,y.v.length<=50):∀(vs:List LV) (s:Int×Es),(vs.foldl (cW vals) s).2.length<=s.2.length+50*vs.length
 |[],s=>by simp
 |x::vs,s=>by
  have:=Dc hv vs (cW vals s x);have:=Ez (s:=s) (x:=x) hv;simp only[List.foldl_cons,List.length_cons];omega
def I115 (l:LL)(vals:List LL)(V W:AV)(ks km:Nat)(h0:AH)(j:Nat)(fr:AF)(h:AH):Prop:=∃tm m,m+j=l.v.length/\fr=⟨tm,⟨[],.no,none,115⟩⟩/\
  sb ks km ((l.v.take m).foldl (cW vals) (l.c,[])).1 ((l.v.take m).foldl (cW vals) (l.c,[])).2 h/\(∀k,k<h0.z->h.get k=h0.get k)/\h.get (h0.z+1)=some (.box [wt 0,.nl])/\h0.z<=h.low/\h0.z+2<=ks/\h0.z+2<=km/\
  nth tm 1=V/\nth tm 4=.ptr (h0.z+1) 0 0/\nth tm 6=.ptr ks 0 0/\nth tm 26=W/\nth tm 27=wt (l.v.length:Int)/\nth tm 28=wt (m:Int)
def KR (L:Es):Prop:=∀k∈L.map (·.1),-65536<=k/\k<=7
structure KS (K:aG):Prop where
 r209:∀(H:AH) kb km (L:Es),H.get kb=some (.box [.map km])->H.get km=some (.map (mp L))->kb<H.z->L.length<30000->(L.map (·.1)).Nodup->KR L->K (.fn 209 [] []) [.fn 254 [] [.ptr kb 0 0]] .no H=some (.ret (.ls ((dg L).map AG.dF)),.no,H)
theorem xr {L:Es}(k v:Int):(tt L k v).map (·.1)=if k∈L.map (·.1) then L.map (·.1) else L.map (·.1)++[k]:=by
 induction L with
 |nil=>simp[tt]
 |cons e L ih=>
  rw[tt];by_cases h:k=e.1
  ·rw[wae h,wae (by simp[h])];simp[h]
  ·rw[wad h,List.map_cons,ih,List.map_cons];by_cases h2:k∈L.map (·.1)
   ·rw[wae h2,wae (List.mem_cons_of_mem _ h2)]
   ·rw[wad h2,wad (by rw[List.mem_cons];rintro(e|e);exact h e;exact h2 e)];rfl
theorem ug {L:Es}(k v:Int)(h:(L.map (·.1)).Nodup):((tt L k v).map (·.1)).Nodup:=by
 rw[xr];split
 ·exact h
 ·rename_i h2;rw[List.nodup_append];exact⟨h,by simp,fun a ha b hb=>by simp at hb;subst hb;intro e;subst e;exact h2 ha⟩
theorem qh {L:Es}(k p:Int)(h:(L.map (·.1)).Nodup):((fV L k p).map (·.1)).Nodup:=by
 unfold fV;split
 ·split
  ·exact ug _ _ h
  ·exact h
 ·exact ug _ _ h
theorem uH (n:Int):∀(vs:List LV) {L:Es},(L.map (·.1)).Nodup->((tu L vs n).map (·.1)).Nodup
 |[],_L,h=>h
 |_x::vs,_L,h=>uH n vs (qh _ _ h)
theorem pE {vals:List LL}: ∀(vs:List LV) (s:Int×Es),(s.2.map (·.1)).Nodup->(((vs.foldl (cW vals) s).2).map (·.1)).Nodup
 |[],s,h=>h
 |x::vs,s,h=>by
  refine pE vs _ ?_;unfold cW;split
  ·split
   ·exact uH _ _ h
   ·exact h
  ·exact qh _ _ h
theorem HI {L:Es}{k:Int}(v:Int)(hk : -65536<=k/\k<=7)(h:KR L):KR (tt L k v):=by
 unfold KR;rw[xr];split
 ·exact h
 ·intro y hy;rcases List.mem_append.1 hy with hy|hy
  ·exact h y hy
  ·simp at hy;subst hy;exact hk
theorem xD {L:Es}{k:Int}(p:Int)(hk : -65536<=k/\k<=7)(h:KR L):KR (fV L k p):=by
 unfold fV;split
 ·split
  ·exact HI _ hk h
  ·exact h
 ·exact HI _ hk h
theorem Jl (n:Int):∀(vs:List LV) {L:Es},(∀x∈vs,Rng x)->KR L->KR (tu L vs n)
 |[],L,_,h=>h
 |x::vs,L,hx,h=>Jl n vs (fun y hy=>hx y (by simp[hy])) (xD _ (by obtain⟨h1,h2,_⟩:=hx x (by simp);exact⟨h1,h2⟩) h)
theorem Jj {vals:List LL}(hv:∀y∈vals,VL y):∀(vs:List LV) (s:Int×Es),(∀x∈vs,Rng x)->KR s.2->KR ((vs.foldl (cW vals) s).2)
 |[],s,_,h=>h
 |x::vs,s,hx,h=>by
  refine Jj hv vs _ (fun y hy=>hx y (by simp[hy])) ?_;have hr : -65536<=x.i/\x.i<=7:=by obtain⟨h1,h2,_⟩:=hx x (by simp);exact⟨h1,h2⟩
  unfold cW;split
  ·split
   ·rename_i y hy;exact Jl _ _ (fun z hz=>by
     obtain⟨i,hi⟩:=List.mem_iff_getElem?.1 hz;exact(hv y (wS hy)).rng i z hi) h
   ·exact h
  ·exact xD _ hr h
theorem VL.p {l:LL}(h:VL l):∀y∈l.v,0<=y.p/\y.p<=100:=by
 intro y hy;obtain⟨i,hi⟩:=List.mem_iff_getElem?.1 hy;obtain⟨_,_,h1,h2⟩:=h.rng i y hi;exact⟨h1,h2⟩
theorem Yk {K:aG}(hK:jR K)(hv:KV K)(m:Nat)(a:AV)(l:LL)(V:AV)(vals:List LL)(h:AH)(ha:Lv a l)(hV:RdL h.z h V vals)(h1:l.v.length<=100)(h2:vals.length<30000)(h3:∀y∈vals,y.v.length<=50)(hvl:VL l)(hvs:∀y∈vals,VL y)
  (h167:∀(ks km:Nat) (c:Int) (L:Es) (h:AH),sb ks km c L h->L.length<30000->(L.map (·.1)).Nodup->KR L->∃v nx,h.z<=nx/\cK K (m+8) (.fn 167 [] []) [.ptr ks 0 0] .no h=some (.ret v,.no,⟨nx,h.low,h.objs⟩)/\tQ (tW c L) v) :
  ∃v h',dZ EF (cK K (m+8)) 30000 115 [a,V] .no h=some (.ret v,.no,h')/\Gx (tQ (acE l vals)) h v h':=by
 have e135:=fun h=>dQ (hv.r135 a l h ha (by omega)) (m+8)
 rw[yZ hvl]at e135;obtain⟨W,rfl,hn,hc,hli,hfz,hr,hia⟩:=ha.ex;refine eU cf115 (fg _) ?_;have n1:¬(h.z=h.z+1):=by omega
 unfold b115;simp only[go_sem,simprocAttr,Sz,n1,e135];obtain⟨ob,hob⟩:∃ob,ob=(h.objs.put h.z (.box [wt l.c,W])).put (h.z+1) (.box [wt 0,.nl]):=⟨_,rfl⟩
 rw[<-hob];have G1:ob.get h.z=some (.box [wt l.c,W]):=by simp only[hob,go_sem,simprocAttr,n1]
 have G2:ob.get (h.z+1)=some (.box [wt 0,.nl]):=by simp only[hob,go_sem,simprocAttr]
 have G3:∀k,k<h.z->ob.get k=h.objs.get k:=fun k hk=>by rw[hob,Tr.cA _ _ (by omega),Tr.cA _ _ (by omega)]
 obtain⟨nx1,g1,e163⟩:=c163 hK hv (m+4) V vals ⟨h.z+1+1,h.z,ob⟩ (hV.mono (by show h.z<=h.z+1+1;omega) G3) h2 (fun x hx=>by have:=h3 x hx;omega);have g1:h.z+1+1<=nx1:=g1;rw[show vals.all vl=true from List.all_eq_true.2 fun y hy=>yZ (hvs y hy)]at e163;obtain⟨H4,e164,q1,q2,q3,q4,q5⟩:=c164 hK (m+7) ⟨nx1,h.z,ob⟩;have q1:H4.z=nx1+2:=q1;have q2:H4.low=h.z:=q2;have q3:H4.get nx1=some (.map []):=q3;have q4:H4.get (nx1+1)=some (.box [.map nx1,wt 0]):=q4;have q5:∀k,k<nx1->H4.get k=ob.get k:=q5
 have G1':=(q5 h.z (by omega)).trans G1;have G2':=(q5 (h.z+1) (by omega)).trans G2;have n2:¬(h.z=nx1+1):=by omega
 have hlen:=(hr 0 h).len;simp only[go_sem,simprocAttr,e163,SB,e164,SC,G1',q4,SD,n2,hlen];refine bD (I115 l vals V W (nx1+1) nx1 h) l.v.length (by omega) ⟨_,0,wac _,rfl,⟨?_,?_,?_,?_,by omega⟩,fun k hk=>?_,?_,?_,by omega,by omega,by and_intros<;>simp only[go_sem,simprocAttr]⟩ ?_
 ·rw[aC];rfl
 ·rw[an (by omega),q3];rfl
 ·rw[co];omega
 ·rw[co];omega
 ·rw[an (by omega),q5 k (by omega)];exact G3 k hk
 ·rw[an (by omega)];exact G2'
 ·rw[low_set,q2];exact bo (by omega) (Fv _)
 rintro j fr H ⟨tm,q,hq,rfl,hS,hk,k2,hlo,b1,b2,t1,t4,t6,t26,t27,t28⟩;unfold Uh;have hS':=hS;obtain⟨s1,s2,s3,s4,s5⟩:=hS';simp only[go_sem,simprocAttr,SF,t27,t28];refine bj (fun hlt=>?_) (fun hge=>?_)
 ·have hlt:q<l.v.length:=by omega
  have hget:l.v[q]?=some l.v[q]:=wO hlt;obtain⟨p',hp'⟩:=(hr H.z H).get q _ hget;have ha:=(hp' H (fun _ _=>rfl)).1;have hb:=(hp' H (fun _ _=>rfl)).2;have hw2:=aM q (by omega);have hxv:encV l.v[q]=.agg [wt l.v[q].i,wt l.v[q].p]:=rfl;rw[hxv]at hb;obtain⟨r1,r2,r3,r4⟩:=hvl.rng q _ hget;have hw3:IntKind.wrap .i64 (-1-l.v[q].i)=-1-l.v[q].i:=br _ (by omega) (by omega);have hfold:(l.v.take (q+1)).foldl (cW vals) (l.c,[])=cW vals ((l.v.take q).foldl (cW vals) (l.c,[])) l.v[q]:=by
   rw[fP hget,List.foldl_append];rfl
  obtain⟨nx,lo,ob2⟩:=H;have s1:ob2.get (nx1+1)=some (.box [.map nx1,wt ((l.v.take q).foldl (cW vals) (l.c,[])).1]):=s1;have s3:nx1+1<nx:=s3;have n3:¬(nx1+1=nx):=by omega
  have n4:¬(nx1=nx):=by omega
  have hlo:h.z<=lo:=hlo;have k2:ob2.get (h.z+1)=some (.box [wt 0,.nl]):=k2;have hlenV:=hV.len;obtain⟨ob3,hob3⟩:∃ob3,ob3=(ob2.put nx (.box [wt 0,wt 0])).put nx (.box [wt l.v[q].i,wt l.v[q].p]):=⟨_,rfl⟩
  have hg3:∀k,k≠nx->ob3.get k=ob2.get k:=fun k hk=>by rw[hob3,Tr.cA _ _ hk,Tr.cA _ _ hk]
  have hgx:ob3.get nx=some (.box [wt l.v[q].i,wt l.v[q].p]):=by rw[hob3,Tr.cB]
  have hsum:sb (nx1+1) nx1 ((l.v.take q).foldl (cW vals) (l.c,[])).1 ((l.v.take q).foldl (cW vals) (l.c,[])).2 ⟨nx+1,gz nx lo,ob3⟩:=
   ⟨(hg3 _ n3).trans s1,(hg3 _ n4).trans s2,by show nx1+1<nx+1;omega,by show nx1<nx+1;omega,s5⟩
  have s1':ob3.get (nx1+1)=some (.box [.map nx1,wt ((l.v.take q).foldl (cW vals) (l.c,[])).1]):=(hg3 _ n3).trans s1;simp only[go_sem,simprocAttr,SG,t26,t28,ha,hb];rw[<-hob3];simp only[go_sem,simprocAttr,SH,hgx,hw3,SI];have fin:∀h' c' L',cW vals ((l.v.take q).foldl (cW vals) (l.c,[])) l.v[q]=(c',L')->sb (nx1+1) nx1 c' L' h'->(∀k,k<nx+1->k≠nx1+1->k≠nx1->h'.get k=ob3.get k)->h.z<=h'.low->∀tm',nth tm' 1=V->nth tm' 4=.ptr (h.z+1) 0 0->nth tm' 6=.ptr (nx1+1) 0 0->nth tm' 26=W->nth tm' 27=wt (l.v.length:Int)->nth tm' 28=wt ((q+1:Nat):Int)->
    ∃j',j'<j/\I115 l vals V W (nx1+1) nx1 h j' ⟨tm',⟨[],.no,none,115⟩⟩ h':=by
   intro h' c' L' e1 e2 e3 e4 tm' u1 u4 u6 u26 u27 u28;refine⟨j-1,by omega,tm',q+1,by omega,rfl,?_,fun k hk'=>?_,?_,e4,b1,b2,u1,u4,u6,u26,u27,u28⟩
   ·rw[hfold,e1];exact e2
   ·rw[e3 k (by omega) (by omega) (by omega),hg3 k (by omega)];exact hk k hk'
   ·rw[e3 _ (by omega) (by omega) (by omega),hg3 _ (by omega)];exact k2
  by_cases hpos:0<=-1-l.v[q].i
  ·have hd:decide (0<=-1-l.v[q].i)=true:=HE hpos;simp only[go_sem,simprocAttr,hd,t1,hlenV];refine bj (fun hin=>?_) (fun hout=>?_)
   ·obtain⟨i,hi⟩:∃i:Nat,-1-l.v[q].i=(i:Int):=⟨(-1-l.v[q].i).toNat,by omega⟩
    have hil:i<vals.length:=by omega
    have hgi:vals[i]?=some vals[i]:=wO hil;obtain⟨p2,a2,hla,hp2⟩:=hV.get i _ hgi;have hk3:∀k,k<h.z->AH.get ⟨nx+1,gz nx lo,ob3⟩ k=h.get k:=fun k hk'=>(hg3 k (by omega)).trans (hk k hk')
    have hc1:=(hp2 ⟨nx+1,gz nx lo,ob3⟩ hk3).1;have hc2:=(hp2 ⟨nx+1,gz nx lo,ob3⟩ hk3).2;rw[<-hi]at hc1;have hval:=hvs _ (List.getElem_mem hil);obtain⟨v',h',f1,rfl,f2,f3,f4⟩:=c165 hK (m+6) (nx1+1) nx1 _ _ a2 vals[i] l.v[q].p ⟨nx+1,gz nx lo,ob3⟩ hsum hla (by have:=h3 _ (List.getElem_mem hil);omega) ⟨hval.c0,by have:=hval.c1;omega⟩ ⟨r3,by omega⟩ (fun y hy=>by have:=hval.p y hy;omega);obtain⟨f5,f6,f7⟩:=f3;simp only[go_sem,simprocAttr,t6,t1,hc1,hc2,hgx,f1,hw2,t28];refine fin h' _ _ ?_ f2 f6 (f7 h.z (by(repeat' (first|assumption|exact Fv _|apply bo))<;>omega) (by omega) (by omega)) _ (by simp only[go_sem,simprocAttr,t1]) (by simp only[go_sem,simprocAttr,t4]) (by simp only[go_sem,simprocAttr,t6]) (by simp only[go_sem,simprocAttr,t26]) (by simp only[go_sem,simprocAttr,t27]) (by simp only[go_sem,simprocAttr]);unfold cW;rw[wae ⟨hpos,hin⟩,hi,Int.toNat_natCast,hgi]
   ·obtain⟨v',h',f1,rfl,f2,f3,f4,f5,f6⟩:=aeU hK (m+7) nx1 _ l.v[q].i l.v[q].p ⟨nx+1,gz nx lo,ob3⟩ hsum.m hsum.lm;have f3:nx+1<=h'.z:=f3;simp only[go_sem,simprocAttr,t6,s1',hgx,f1,hw2,t28];refine fin h' _ _ (by unfold cW;rw[wad (fun e=>hout e.2)]) ⟨by rw[f4 _ (by omega)];exact s1',f2,by omega,by omega,s5⟩ (fun k _ _ h3=>f4 k h3) (f5 h.z (by(repeat' (first|assumption|exact Fv _|apply bo))<;>omega) (by omega)) _ (by simp only[go_sem,simprocAttr,t1]) (by simp only[go_sem,simprocAttr,t4]) (by simp only[go_sem,simprocAttr,t6]) (by simp only[go_sem,simprocAttr,t26]) (by simp only[go_sem,simprocAttr,t27]) (by simp only[go_sem,simprocAttr])
  ·obtain⟨v',h',f1,rfl,f2,f3,f4,f5,f6⟩:=aeU hK (m+7) nx1 _ l.v[q].i l.v[q].p ⟨nx+1,gz nx lo,ob3⟩ hsum.m hsum.lm;have f3:nx+1<=h'.z:=f3;have hd:decide (0<=-1-l.v[q].i)=false:=HD hpos;simp only[go_sem,simprocAttr,hd,t6,s1',hgx,f1,hw2,t28];refine fin h' _ _ (by unfold cW;rw[wad (fun e=>hpos e.1)]) ⟨by rw[f4 _ (by omega)];exact s1',f2,by omega,by omega,s5⟩ (fun k _ _ h3=>f4 k h3) (f5 h.z (by(repeat' (first|assumption|exact Fv _|apply bo))<;>omega) (by omega)) _ (by simp only[go_sem,simprocAttr,t1]) (by simp only[go_sem,simprocAttr,t4]) (by simp only[go_sem,simprocAttr,t6]) (by simp only[go_sem,simprocAttr,t26]) (by simp only[go_sem,simprocAttr,t27]) (by simp only[go_sem,simprocAttr])
 ·have:q=l.v.length:=by omega
  subst this;rw[List.take_length]at hS;have hlen2:=Dc h3 l.v (l.c,[]);simp only[List.length_nil]at hlen2;obtain⟨v7,nx7,w1,w2,a7,rfl,w3⟩:=h167 (nx1+1) nx1 _ _ H hS (by omega) (pE l.v (l.c,[]) List.nodup_nil) (Jj hvs l.v (l.c,[]) (fun x hx=>by
   obtain⟨i,hi⟩:=List.mem_iff_getElem?.1 hx;exact hvl.rng i x hi) (fun k hk=>by simp at hk))
  obtain⟨W7,ha7,z1,z2,z3,z4,z5,z6⟩:=w3.ex;have hl7:a7.lies=true:=by rw[ha7];rfl
  have hc7:a7.cells=[wt (tW (FB l vals).1 (FB l vals).2).1.c,W7]:=by rw[ha7];rfl
  have k2':h.z+1<H.z:=by omega
  obtain⟨nx,lo,ob2⟩:=H;have k2:ob2.get (h.z+1)=some (.box [wt 0,.nl]):=k2;have w2:cK K (m+8) (.fn 167 [] []) [.ptr (nx1+1) 0 0] .no ⟨nx,lo,ob2⟩=some (.ret (.tup [.agg [wt (tW (FB l vals).1 (FB l vals).2).1.c,W7],wt (tW (FB l vals).1 (FB l vals).2).2]),.no,⟨nx7,lo,ob2⟩):=by rw[w2,ha7];rfl
  simp only[go_sem,simprocAttr,SE,t4,t6,w2,k2];refine ez (.inr rfl) (by(repeat' (first|assumption|exact Fv _|apply bo))<;>omega) (by have w1:nx<=nx7:=w1;show h.z<=nx7;omega) (by simp only[go_sem,simprocAttr,r115,t4];rfl) ⟨_,?_,w3⟩;rw[jW,cZ,ha7];simp only[List.map_cons,List.map_nil,cw,bY,z4];rfl
theorem c115 {K:aG}(hK:jR K)(hv:KV K)(hs:KS K)(m:Nat)(a:AV)(l:LL)(V:AV)(vals:List LL)(h:AH)(ha:Lv a l)(hV:RdL h.z h V vals)(h1:l.v.length<=100)(h2:vals.length<30000)(h3:∀y∈vals,y.v.length<=50)(hvl:VL l)(hvs:∀y∈vals,VL y):
  ∃v nx,h.z<=nx/\cK K (m+9) (.fn 115 [] []) [a,V] .no h=some (.ret v,.no,⟨nx,h.low,h.objs⟩)/\tQ (acE l vals) v:=by
 rw[eV hK _ 115];obtain⟨v,h',e,g⟩:=Yk hK hv m a l V vals h ha hV h1 h2 h3 hvl hvs (fun ks km c L H hS hL hN hR=>by
  rw[eV hK _ 167];obtain⟨v,h',e,g⟩:=c167 hK (m+1) ks km c L H hS hL (fun H2 kb q1 q2 q3=>dQ (hs.r209 H2 kb km L q1 q2 q3 hL hN hR) _);obtain⟨nx,g1,rfl⟩:=iH g;exact⟨v,nx,g1,e,g.1⟩)
 obtain⟨nx,g1,rfl⟩:=iH g;exact⟨v,nx,g1,e,g.1⟩
attribute [local go_sem] dB bJ bk bS bR
def bK:List LV->List LV->List LV
 |[],ys=>ys
 |x::xs,[]=>x::xs
 |x::xs,y::ys=>if x.i<y.i then x::bK xs (y::ys) else if y.i<x.i then y::bK (x::xs) ys else ⟨x.i,max x.p y.p⟩::bK xs ys
termination_by xs ys=>xs.length+ys.length
def cU (vs:List LV):Int:=vs.foldl (fun m x=>max m x.p) 0
def gq (a b:LL):LL:=⟨if 0<(bK a.v b.v).length/\max a.c b.c<=cU (bK a.v b.v) then 0 else max a.c b.c,bK a.v b.v⟩
theorem DQ (vs:List LV)(x:LV):cU (vs++[x])=max (cU vs) x.p:=by unfold cU;rw[List.foldl_append];rfl
theorem uw (xs:List LV):bK xs []=xs:=by cases xs<;>simp[bK]
theorem vM {α:Type}{l:List α}{i:Nat}{x:α}(h:l[i]?=some x):l.drop i=x::l.drop (i+1):=by
 obtain⟨hi,rfl⟩:=wah.1 h;exact List.drop_eq_getElem_cons hi
structure J202 (a b:LL)(Va Vb:AV)(h0 h:AH)(i k:Nat)(os:List LV)(V':AV):Prop where
 b2:h.get h0.z=some (.box [wt a.c,Va])
 b3:h.get (h0.z+1)=some (.box [wt b.c,Vb])
 b4:h.get (h0.z+2)=some (.box [wt 0,.nl])
 b5:h.get (h0.z+3)=some (.box [wt (max a.c b.c),V'])
 own:Own (h0.z+4) 2 true h V' (os.map encV)
 low:h0.z<=h.low
 z:h0.z+4<=h.z
 kw:∀k,k<h0.z->h.get k=h0.get k
 le1:i<=a.v.length
 le2:k<=b.v.length
 rest:os++bK (a.v.drop i) (b.v.drop k)=bK a.v b.v
 olen:os.length<=i+k
def I202 (a b:LL)(Va Vb:AV)(h0:AH)(j:Nat)(fr:AF)(h:AH):Prop:=∃tm i k os V',j+i+k=a.v.length+b.v.length/\fr=⟨tm,⟨[],.no,none,202⟩⟩/\J202 a b Va Vb h0 h i k os V'/\
  nth tm 2=.ptr h0.z 0 0/\nth tm 3=.ptr (h0.z+1) 0 0/\nth tm 4=.ptr (h0.z+2) 0 0/\nth tm 5=.ptr (h0.z+3) 0 0/\nth tm 6=wt (i:Int)/\nth tm 7=wt (k:Int)/\nth tm 8=wt (cU os)
theorem Ye (call:aG)(n:Nat)(a b:LL)(va vb:AV)(h:AH)(ha:Lv va a)(hb:Lv vb b)(hn:1000<n)(l1:a.v.length<=400)(l2:b.v.length<=400):
  ∃v h',dZ EF call n 202 [va,vb] .no h=some (.ret v,.no,h')/\Gx (fun v=>Lv v (gq a b)) h v h':=by
 obtain⟨Va,rfl,a1,a2,a3,a4,a5,a6⟩:=ha.ex;obtain⟨Vb,rfl,b1,b2,b3,b4,b5,b6⟩:=hb.ex;refine eU cf202 (fg _) ?_;have n1:¬(h.z=h.z+1):=by omega
 have n2:¬(h.z=h.z+1+1):=by omega
 have n3:¬(h.z=h.z+1+1+1):=by omega
 have n4:¬(h.z+1=h.z+1+1):=by omega
 have n5:¬(h.z+1=h.z+1+1+1):=by omega
 have n6:¬(h.z+1+1=h.z+1+1+1):=by omega
 unfold b202;simp only[go_sem,simprocAttr,QF,n1,n2,n4,max2,QG,QH,QI];refine bD (I202 a b Va Vb h) (a.v.length+b.v.length) (by omega) ⟨_,0,0,[],.nl,by omega,rfl,⟨?_,?_,?_,?_,fD _ _ _ _,(by(repeat' (first|assumption|exact Fv _|apply bo))<;>omega),?_,?_,?_,?_,?_,?_⟩,?_,?_,?_,?_,?_,?_,?_⟩ ?_
 ·simp only[go_sem,simprocAttr,n1,n2,n3]
 ·simp only[go_sem,simprocAttr,n4,n5]
 ·show _=_;simp only[go_sem,simprocAttr,n6]
 ·simp only[go_sem,simprocAttr]
 ·show h.z+4<=h.z+1+1+1+1;omega
 ·intro k hk;rw[cp,Tr.cA _ _ (by omega),Tr.cA _ _ (by omega),Tr.cA _ _ (by omega),Tr.cA _ _ (by omega),Tr.cA _ _ (by omega)];rfl
 ·omega
 ·omega
 ·rw[List.nil_append,List.drop_zero,List.drop_zero]
 ·simp
 ·simp only[go_sem,simprocAttr]
 ·simp only[go_sem,simprocAttr]
 ·simp only[go_sem,simprocAttr]
 ·simp only[go_sem,simprocAttr]
 ·simp only[go_sem,simprocAttr]
 ·simp only[go_sem,simprocAttr]
 ·simp only[go_sem,simprocAttr];rfl
 rintro j fr H ⟨tm,i,k,os,V',hj,rfl,hJ,t2,t3,t4,t5,t6,t7,t8⟩;obtain⟨g2,g3,g4,g5,own,low,nxt,keep,le1,le2,rest,olen⟩:=hJ;obtain⟨nx,lo,ob⟩:=H;have g2:ob.get h.z=some (.box [wt a.c,Va]):=g2;have g3:ob.get (h.z+1)=some (.box [wt b.c,Vb]):=g3;have g4:ob.get (h.z+2)=some (.box [wt 0,.nl]):=g4;have g5:ob.get (h.z+3)=some (.box [wt (max a.c b.c),V']):=g5;have low:h.z<=lo:=low;have nxt:h.z+4<=nx:=nxt;have la:=(a5 0 h).len;have lb:=(b5 0 h).len;have m1:¬(h.z=nx):=by omega
 have m2:¬(h.z+1=nx):=by omega
 have m3:¬(h.z+3=nx):=by omega
 have hwi:=aM i (by omega);have hwk:=aM k (by omega);unfold TV;have fin:∀(x:LV) (i' k':Nat) tm',i'<=a.v.length->k'<=b.v.length->i+k<i'+k'->(os++[x])++bK (a.v.drop i') (b.v.drop k')=bK a.v b.v->
   nth tm' 2=.ptr h.z 0 0->nth tm' 3=.ptr (h.z+1) 0 0->nth tm' 4=.ptr (h.z+2) 0 0->nth tm' 5=.ptr (h.z+3) 0 0->nth tm' 6=wt (i':Int)->nth tm' 7=wt (k':Int)->nth tm' 8=wt (cU os)->nth tm' 9=.ptr nx 0 0->
   ∀lo' ob',h.z<=lo'->ob'.get nx=some (.box [wt x.i,wt x.p])->(∀k,k<nx->ob'.get k=ob.get k)->
   R call n [.code FN,.out 1] (LQ call n (I202 a b Va Vb h) j [.out 0,.code wD] (HQ h Zj (Gx (fun v=>Lv v (gq a b)) h))) .normal ⟨tm',⟨[],.no,none,202⟩⟩ ⟨nx+1,lo',ob'⟩:=by
  intro x i' k' tm' e1 e2 e3 e4 u2 u3 u4 u5 u6 u7 u8 u9 lo' ob' w1 w2 w3;have f5:ob'.get (h.z+3)=some (.box [wt (max a.c b.c),V']):=(w3 _ (by omega)).trans g5;obtain⟨v',h',c1,c2,c3,c4,c5,c6,c7,c8⟩:=cV (bytes:=16) (z:=[wt 0,wt 0]) (bp (h':=⟨nx+1,lo',ob'⟩) own (by show nx<=nx+1;omega) (fun k _ hk=>w3 k hk)) (by show h.z+4<=nx+1;omega) rfl (x:=encV x) rfl rfl rfl (by rw[waa];omega) (by omega);have c1:dO ⟨nx+1,lo',ob'⟩ 2 true [wt 0,wt 0] 16 V' (.clip [.agg [wt x.i,wt x.p]])=some (v',h'):=c1;rw[show os.map encV++[encV x]=(os++[x]).map encV by simp]at c2;have rd:=qI c2;have hvc:=rd.cell;have hvl:=rd.lies;obtain⟨nx2,lo2,ob2⟩:=h';have c3:nx+1<=nx2:=c3;have c4:∀k,k<h.z+4->ob2.get k=ob'.get k:=c4
  have c5:h.z<=lo2:=c5 h.z (by omega) w1;have f5':ob2.get (h.z+3)=some (.box [wt (max a.c b.c),V']):=(c4 _ (by omega)).trans f5;unfold FN;simp only[go_sem,simprocAttr,u8,u9,w2,max2,u5,f5,c1,f5',hvc,hvl];refine⟨a.v.length+b.v.length-i'-k',by omega,_,i',k',os++[x],v',by omega,rfl,⟨?_,?_,?_,?_,?_,(by(repeat' (first|assumption|exact Fv _|apply bo))<;>omega),by show h.z+4<=nx2;omega,fun k hk=>?_,e1,e2,e4,by simp;omega⟩,by and_intros<;>simp only[go_sem,simprocAttr,u2,u3,u4,u5,u6,u7,DQ]⟩
  ·rw[cp,Tr.cA _ _ (by omega),c4 _ (by omega),w3 _ (by omega)];exact g2
  ·rw[cp,Tr.cA _ _ (by omega),c4 _ (by omega),w3 _ (by omega)];exact g3
  ·rw[cp,Tr.cA _ _ (by omega),c4 _ (by omega),w3 _ (by omega)];exact g4
  ·rw[cp,Tr.cB]
  ·exact bp c2 (Fv _) fun k h1 _=>by rw[cp,Tr.cA _ _ (by omega)];rfl
  ·rw[cp,Tr.cA _ _ (by omega),c4 _ (by omega),w3 _ (by omega)];exact keep k hk
 by_cases hi:i<a.v.length
 ·have d1:decide ((i:Int)<(a.v.length:Int))=true:=HE (by omega);obtain⟨x,hx⟩:∃x,a.v[i]?=some x:=⟨_,wO hi⟩
  have ia:=a6 i x hx;have hxv:encV x=.agg [wt x.i,wt x.p]:=rfl;rw[hxv]at ia;have dx:=vM hx;by_cases hk:k<b.v.length
  ·obtain⟨y,hy⟩:∃y,b.v[k]?=some y:=⟨_,wO hk⟩
   have ib:=b6 k y hy;have hyv:encV y=.agg [wt y.i,wt y.p]:=rfl;rw[hyv]at ib;have dy:=vM hy;have d2:decide ((k:Int)=(b.v.length:Int))=false:=HD (by omega);by_cases hlt:x.i<y.i
   ·have d3:decide (x.i<y.i)=true:=HE hlt;simp only[go_sem,simprocAttr,t6,t7,t2,t3,g2,g3,la,lb,d1,d2,tD,ia,ib,m1,m2,d3,hwi];refine fin x (i+1) k _ (by omega) le2 (by omega) ?_ (by simp only[go_sem,simprocAttr,t2]) (by simp only[go_sem,simprocAttr,t3]) (by simp only[go_sem,simprocAttr,t4]) (by simp only[go_sem,simprocAttr,t5]) (by simp only[go_sem,simprocAttr]) (by simp only[go_sem,simprocAttr,t7]) (by simp only[go_sem,simprocAttr,t8]) (by simp only[go_sem,simprocAttr]) _ _ (by(repeat' (first|assumption|exact Fv _|apply bo))<;>omega) (by simp only[go_sem,simprocAttr]) (by intros;(repeat rw[Tr.cA _ _ (by omega)]));rw[<-rest,dx,dy,bK,wae hlt,List.append_assoc];rfl
   ·have d3:decide (x.i<y.i)=false:=HD hlt;have d4:decide ((i:Int)=(a.v.length:Int))=false:=HD (by omega);by_cases hgt:y.i<x.i
    ·have d5:decide (y.i<x.i)=true:=HE hgt;simp only[go_sem,simprocAttr,t6,t7,t2,t3,g2,g3,la,lb,d1,d2,d4,d5,tD,ia,ib,m1,m2,d3,hwk];refine fin y i (k+1) _ (by omega) (by omega) (by omega) ?_ (by simp only[go_sem,simprocAttr,t2]) (by simp only[go_sem,simprocAttr,t3]) (by simp only[go_sem,simprocAttr,t4]) (by simp only[go_sem,simprocAttr,t5]) (by simp only[go_sem,simprocAttr,t6]) (by simp only[go_sem,simprocAttr]) (by simp only[go_sem,simprocAttr,t8]) (by simp only[go_sem,simprocAttr]) _ _ (by(repeat' (first|assumption|exact Fv _|apply bo))<;>omega) (by simp only[go_sem,simprocAttr]) (by intros;(repeat rw[Tr.cA _ _ (by omega)]));rw[<-rest,dx,dy,bK,wad hlt,wae hgt,List.append_assoc];rfl
    ·have d5:decide (y.i<x.i)=false:=HD hgt;simp only[go_sem,simprocAttr,t6,t7,t2,t3,g2,g3,la,lb,d1,d2,d4,d5,tD,ia,ib,m1,m2,d3,hwi,hwk,max2];refine fin ⟨x.i,max x.p y.p⟩ (i+1) (k+1) _ (by omega) (by omega) (by omega) ?_ (by simp only[go_sem,simprocAttr,t2]) (by simp only[go_sem,simprocAttr,t3]) (by simp only[go_sem,simprocAttr,t4]) (by simp only[go_sem,simprocAttr,t5]) (by simp only[go_sem,simprocAttr]) (by simp only[go_sem,simprocAttr]) (by simp only[go_sem,simprocAttr,t8]) (by simp only[go_sem,simprocAttr]) _ _ (by(repeat' (first|assumption|exact Fv _|apply bo))<;>omega) (by simp only[go_sem,simprocAttr]) (by intros;(repeat rw[Tr.cA _ _ (by omega)]));rw[<-rest,dx,dy,bK,wad hlt,wad hgt,List.append_assoc];rfl
  ·have hk':k=b.v.length:=by omega
   have d2:decide ((k:Int)=(b.v.length:Int))=true:=HE (by omega);have dy:b.v.drop k=[]:=by rw[hk',List.drop_length]
   simp only[go_sem,simprocAttr,t6,t7,t2,t3,g2,g3,la,lb,d1,d2,tD,ia,m1,m2,hwi];refine fin x (i+1) k _ (by omega) le2 (by omega) ?_ (by simp only[go_sem,simprocAttr,t2]) (by simp only[go_sem,simprocAttr,t3]) (by simp only[go_sem,simprocAttr,t4]) (by simp only[go_sem,simprocAttr,t5]) (by simp only[go_sem,simprocAttr]) (by simp only[go_sem,simprocAttr,t7]) (by simp only[go_sem,simprocAttr,t8]) (by simp only[go_sem,simprocAttr]) _ _ (by(repeat' (first|assumption|exact Fv _|apply bo))<;>omega) (by simp only[go_sem,simprocAttr]) (by intros;(repeat rw[Tr.cA _ _ (by omega)]));rw[<-rest,dx,dy,uw,uw,List.append_assoc];rfl
 ·have hi':i=a.v.length:=by omega
  have d1:decide ((i:Int)<(a.v.length:Int))=false:=HD (by omega);have dx:a.v.drop i=[]:=by rw[hi',List.drop_length]
  by_cases hk:k<b.v.length
  ·obtain⟨y,hy⟩:∃y,b.v[k]?=some y:=⟨_,wO hk⟩
   have ib:=b6 k y hy;have hyv:encV y=.agg [wt y.i,wt y.p]:=rfl;rw[hyv]at ib;have dy:=vM hy;have d2:decide ((k:Int)=(b.v.length:Int))=false:=HD (by omega);have d3:decide ((k:Int)<(b.v.length:Int))=true:=HE (by omega);have d4:decide ((i:Int)=(a.v.length:Int))=true:=HE (by omega);simp only[go_sem,simprocAttr,t6,t7,t2,t3,g2,g3,la,lb,d1,d2,d3,d4,tD,ib,m1,m2,hwk];refine fin y i (k+1) _ (by omega) (by omega) (by omega) ?_ (by simp only[go_sem,simprocAttr,t2]) (by simp only[go_sem,simprocAttr,t3]) (by simp only[go_sem,simprocAttr,t4]) (by simp only[go_sem,simprocAttr,t5]) (by simp only[go_sem,simprocAttr,t6]) (by simp only[go_sem,simprocAttr]) (by simp only[go_sem,simprocAttr,t8]) (by simp only[go_sem,simprocAttr]) _ _ (by(repeat' (first|assumption|exact Fv _|apply bo))<;>omega) (by simp only[go_sem,simprocAttr]) (by intros;(repeat rw[Tr.cA _ _ (by omega)]));rw[<-rest,dx,dy,bK,bK,List.append_assoc];rfl
  ·have hk':k=b.v.length:=by omega
   have d3:decide ((k:Int)<(b.v.length:Int))=false:=HD (by omega);have dy:b.v.drop k=[]:=by rw[hk',List.drop_length]
   rw[dx,dy,bK,wab]at rest;have rd:=qI own;have hvc:=rd.cell;have hvl:=rd.lies;have hvn:=rd.len;have q1:¬(h.z+2=h.z+3):=by omega
   have q2:¬(h.z+3=h.z+2):=by omega
   have cls:∀(c':Int) lo' ob',(∀k,h.z+4<=k->ob'.get k=ob.get k)->Lv (.agg [wt c',AG.frz 3 ⟨nx,lo',ob'⟩ h.z V']) ⟨c',os⟩:=by
    intro c' lo' ob' hob;rcases own_frzB (m:=2) (fb:=h.z) (bp (h':=⟨nx,lo',ob'⟩) own (Fv _) (fun k h1 _=>hob k h1)) (by omega) (fun e=>by cases e) (fun x hx=>by obtain⟨y,_,rfl⟩:=List.mem_map.1 hx;exact vJ _ _ _ _) with⟨_,e0,ef⟩|ef
    ·rw[ef];have e0:os=[]:=by simpa using e0
     rw[e0];exact iR _
    ·rw[ef];exact nA _ _
   have ej:gq a b=⟨if 0<os.length/\max a.c b.c<=cU os then 0 else max a.c b.c,os⟩:=by unfold gq;rw[<-rest]
   by_cases hz:0<os.length
   ·have dz:decide ((0:Int)<(os.length:Int))=true:=HE (by omega);by_cases hle:max a.c b.c<=cU os
    ·have dl:decide (max a.c b.c<=cU os)=true:=HE hle;simp only[go_sem,simprocAttr,t6,t7,t2,t3,t8,g2,g3,la,lb,d1,d3,wD,t5,g5,hvn,dz,dl,Al,q1,t4,g4];refine ez (.inr rfl) (by(repeat' (first|assumption|exact Fv _|apply bo))<;>omega) (by show h.z<=nx;omega) (by simp only[go_sem,simprocAttr,Zj,t4];rfl) ?_;rw[gP,cw,ej,wae ⟨hz,hle⟩];simp only[List.map_cons,List.map_nil,bY];exact cls _ _ _ (by intros;(repeat rw[Tr.cA _ _ (by omega)]))
    ·have dl:decide (max a.c b.c<=cU os)=false:=HD hle;simp only[go_sem,simprocAttr,t6,t7,t2,t3,t8,g2,g3,la,lb,d1,d3,wD,t5,g5,hvn,dz,dl,Al,t4,g4];refine ez (.inr rfl) (by(repeat' (first|assumption|exact Fv _|apply bo))<;>omega) (by show h.z<=nx;omega) (by simp only[go_sem,simprocAttr,Zj,t4];rfl) ?_;rw[gP,cw,ej,wad (fun e=>hle e.2)];simp only[List.map_cons,List.map_nil,bY];exact cls _ _ _ (by intros;(repeat rw[Tr.cA _ _ (by omega)]))
   ·have dz:decide ((0:Int)<(os.length:Int))=false:=HD (by omega);simp only[go_sem,simprocAttr,t6,t7,t2,t3,g2,g3,la,lb,d1,d3,wD,t5,g5,hvn,dz,Al,t4,g4];refine ez (.inr rfl) (by(repeat' (first|assumption|exact Fv _|apply bo))<;>omega) (by show h.z<=nx;omega) (by simp only[go_sem,simprocAttr,Zj,t4];rfl) ?_;rw[gP,cw,ej,wad (fun e=>hz e.1)];simp only[List.map_cons,List.map_nil,bY];exact cls _ _ _ (by intros;(repeat rw[Tr.cA _ _ (by omega)]))
