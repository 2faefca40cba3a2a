/- MachineKeeps: levels: sums (no condition). -/
import Derived.Test.YtocdlbblemjabaaGreatDoorBj
namespace Go.Proofs.YtocdlbblemjabaaGreatDoor
open Go.AG Go.AG.MK
abbrev Es:=List (Int×Int)
def mpE (L:Es):List (AV×AV):=mpg AG.aO AG.aO L
def jC (L:Es)(k p:Int):Es:=match lkg L k with
 |some o=>if o<p then stg L k p else L
 |none=>stg L k p
def HE (L:Es)(vs:List LV)(n:Int):Es:=vs.foldl (fun L x=>jC L x.idx (x.plus+n)) L
def eN (L:Es):List Int:=(L.map (·.1)).mergeSort fun x y=>decide (x<=y)
def lvs (L:Es)(l:List Int):List LV:=l.map fun i=>⟨i,(lkg L i).getD 0⟩
structure GE (L:Es):Prop where
 nd:(L.map (·.1)).Nodup
 kr:∀ e∈L,-65536<=e.1/\e.1<=7
 pr:∀ e∈L,0<=e.2/\e.2<=200
theorem GE.nil:GE []:=⟨by simp,by simp,by simp⟩
theorem Um {L:Es}(k v:Int):(stg L k v).map (·.1)=if k∈L.map (·.1) then L.map (·.1) else L.map (·.1)++[k]:=by
 induction L with
 |nil=>simp[stg]
 |cons e L ih=>
  rw[stg];by_cases h:k=e.1
  ·rw[P_ h];simp[h]
  ·rw[N_ h,List.map_cons,ih];by_cases q:k∈L.map (·.1)
   ·rw[P_ q,P_ (by simp only[List.map_cons,List.mem_cons];exact .inr q)];rfl
   ·rw[N_ q,N_ (by simp only[List.map_cons,List.mem_cons,not_or];exact⟨h,q⟩)];rfl
theorem GE.stg {L:Es}(g:GE L){k v:Int}(hk : -65536<=k/\k<=7)(hv:0<=v/\v<=200):GE (stg L k v):=by
 refine⟨?_,fun e he=>?_,fun e he=>?_⟩
 ·rw[Um];split
  ·exact g.nd
  ·rename_i q;rw[List.nodup_append];exact⟨g.nd,by simp,fun a ha b hb=>by simp only[List.mem_singleton]at hb;subst hb;intro e;exact q (e▸ha)⟩
 ·rcases stg_mem he with rfl|he
  ·exact hk
  ·exact g.kr e he
 ·rcases stg_mem he with rfl|he
  ·exact hv
  ·exact g.pr e he
theorem GE.raise {L:Es}(g:GE L){k v:Int}(hk : -65536<=k/\k<=7)(hv:0<=v/\v<=200):GE (jC L k v):=by
 unfold jC;split
 ·split
  ·exact g.stg hk hv
  ·exact g
 ·exact g.stg hk hv
theorem GE.add {n:Int}(hn:0<=n/\n<=100):∀ (vs:List LV) {L:Es},GE L->(∀ x∈vs,Rng x)->GE (HE L vs n)
 |[],_,g,_=>g
 |x::vs,L,g,h=>by
  obtain⟨r1,r2,r3,r4⟩:=h x (by simp);exact GE.add hn vs (g.raise (k:=x.idx) (v:=x.plus+n) ⟨r1,r2⟩ ⟨o_,o_⟩) fun y hy=>h y (by simp[hy])
theorem OU:∀ (n:Nat) (lo:Int) (l:List Int),l.Nodup->(∀ x∈l,lo<=x/\x<lo+n)->l.length<=n
 |0,lo,l,_,h=>by
  cases l with
  |nil=>simp
  |cons x l=>have:=h x (by simp);omega
 |n+1,lo,l,hn,h=>by
  have h1:=OU n lo (l.erase (lo+n)) (hn.erase _) fun x hx=>by
   have:=h x (List.mem_of_mem_erase hx);have:x≠lo+n:=by rintro rfl;exact(List.Nodup.not_mem_erase hn) hx
   omega
  have:=List.length_erase (a:=lo+(n:Int)) (l:=l);split at this<;>omega
theorem GE.few {L:Es}(g:GE L):L.length<=65544:=by
 have:=OU 65544 (-65536) (L.map (·.1)) g.nd fun x hx=>by
  obtain⟨e,he,rfl⟩:=List.mem_map.1 hx;have:=g.kr e he;omega
 rwa[L_]at this
theorem VL.idx_le {l:LL}(h:VL l):∀ (d i:Nat) x y,l.vars[i]?=some x->l.vars[i+d]?=some y->x.idx+d<=y.idx
 |0,i,x,y,e1,e2=>by rw[Nat.add_zero,e1]at e2;cases e2;omega
 |d+1,i,x,y,e1,e2=>by
  have hlt:i+d<l.vars.length:=by have:=(E_.1 e2).1;omega
  have e3:l.vars[i+d]?=some l.vars[i+d]:=a_ hlt;have a:=VL.idx_le h d i x _ e1 e3;have b:=h.ord (i+d) _ y e3 (by rw[<- e2];rfl);omega
theorem VL.len {l:LL}(h:VL l):l.vars.length<=65544:=by
 by_cases h0:l.vars.length=0
 ·omega
 ·have e1:l.vars[0]?=some l.vars[0]:=a_ o_;have e2:l.vars[0+(l.vars.length-1)]?=some l.vars[l.vars.length-1]:=by rw[z_];exact a_ o_
  have:=h.idx_le _ _ _ _ e1 e2;obtain⟨a,_⟩:=h.rng _ _ e1;obtain⟨_,b,_⟩:=h.rng _ _ e2;omega
section
variable {K:aQ}{h:AH}
theorem yW (k:Nat)(h:AH):cE (.map k) h=(.map k,h):=rfl
theorem c166 (hK:aZ K)(m:Nat){km:Nat}{L:Es}(i p:Int)(hm:h.get km=some (.map (mpE L))):
  ∃ v h',cS K (m+1) (.fn 209 [] []) [.map km,i_ i,i_ p] .no h=some (.ret v,.no,h')/\v=.tup []/\h'.get km=some (.map (mpE (jC L i p)))/\h'.z=h.z/\∀ k,k≠km->h'.get k=h.get k:=by
 refine bh hK cf166 (ae (yW _ _) (ae (aG _ _ _) (ae (aG _ _ _) (aC _)))) ?_;have hlk:∀ z,fm h 1 z true (.map km) (i_ i)=_:=fun z=>kY (kf:=AG.aO) (t:=1) AG.aO dI hm i z true
 have hup:fK h 1 (.map km) (i_ i) (i_ p)=_:=lU (kf:=AG.aO) (t:=1) AG.aO dI hm i p;unfold b166;simp only[go_sem,simprocAttr,hlk];cases hw:lkg L i with
 |none=>
  have hr:jC L i p=stg L i p:=by unfold jC;rw[hw]
  simp only[go_sem,simprocAttr,HS,hup];refine⟨rfl,rfl,.inl rfl,[],rfl,.tup [],_,bz (aC _),rfl,by rw[hr,aH];rfl,alb _ _ _,fun k hk=>aB hk⟩
 |some o=>
  simp only[go_sem,simprocAttr,HS,AG.aO];refine aX (fun hlt=>?_) (fun hge=>?_)
  ·have hr:jC L i p=stg L i p:=by unfold jC;rw[hw];exact P_ hlt
   simp only[go_sem,simprocAttr,hup];exact⟨rfl,rfl,.inl rfl,[],rfl,.tup [],_,bz (aC _),rfl,by rw[hr,aH];rfl,alb _ _ _,fun k hk=>aB hk⟩
  ·have hr:jC L i p=L:=by unfold jC;rw[hw];exact N_ hge
   simp only[go_sem,simprocAttr];exact⟨rfl,rfl,.inl rfl,[],rfl,.tup [],_,bz (aC _),rfl,by rw[hr];exact hm,rfl,fun k hk=>rfl⟩
structure Sx (b km:Nat)(h0 h:AH)(c:Int)(L:Es):Prop where
 gb:h.get b=some (.box [.map km,i_ c])
 gm:h.get km=some (.map (mpE L))
 nb:b<h.z
 nk:km<h.z
 ne:b≠km
 lb:h0.z<=b
 lk:h0.z<=km
 hk:HK h0 h
theorem Sx.up {b km:Nat}{h0 h h':AH}{c:Int}{L:Es}(s:Sx b km h0 h c L)(k:HK h h'):Sx b km h0 h' c L:=
 ⟨(k.kw _ s.nb).trans s.gb,(k.kw _ s.nk).trans s.gm,by have:=k.z;have:=s.nb;omega,by have:=k.z;have:=s.nk;omega,s.ne,s.lb,s.lk,s.hk.trans k⟩
theorem Sx.raise {b km:Nat}{h0 h h':AH}{c:Int}{L:Es}(s:Sx b km h0 h c L){L':Es}(gm:h'.get km=some (.map (mpE L')))(nx:h'.z=h.z)(kp:∀ k,k≠km->h'.get k=h.get k):Sx b km h0 h' c L':=
 ⟨(kp _ s.ne).trans s.gb,gm,by rw[nx];exact s.nb,by rw[nx];exact s.nk,s.ne,s.lb,s.lk,⟨by rw[nx];exact s.hk.z,fun k hk=>(kp _ (by have:=s.lk;omega)).trans (s.hk.kw k hk)⟩⟩
theorem Sx.cst {b km:Nat}{h0 h:AH}{c:Int}{L:Es}(s:Sx b km h0 h c L)(c':Int):Sx b km h0 (h.set b (.box [.map km,i_ c'])) c' L:=
 ⟨aH _ _ _,by rw[aB s.ne.symm];exact s.gm,by rw[alb];exact s.nb,by rw[alb];exact s.nk,s.ne,s.lb,s.lk,s.hk.set _ s.lb⟩
theorem Wz (h:AH)(k:Nat):bT h [.nilm,i_ 0] [(0,1,.map k)]=.val (.agg [.map k,i_ 0]) h:=(rfl)
theorem c164 (hK:aZ K)(m:Nat):
  ∃ v h',cS K (m+1) (.fn 208 [] []) [] .no h=some (.ret v,.no,h')/\∃ b km,v=.ptr b 0 0/\Sx b km h h' 0 []:=by
 refine bh hK cf164 (aC _) ?_;have hb:∀ (H:AH) (k:Nat),dB H 2 (.agg [.map k,i_ 0])=.val (.ptr H.z 0 0) (H.new (.box [.map k,i_ 0])):=fun H k=>bN _ 2 rfl
 unfold b164;simp only[go_sem,simprocAttr,Yj,Wz,hb,ala];refine⟨rfl,rfl,.inr rfl,[.ptr (h.z+1) 0 0],by simp only[go_sem,simprocAttr,r164],.ptr (h.z+1) 0 0,(h.new (.map [])).new (.box [.map h.z,i_ 0]),aS (by intro l e;cases e) (bD _ _ _ _),h.z+1,h.z,rfl,?_⟩;have n1:=ala h (.map []);exact⟨by rw[<- n1,aE],by rw[aL o_,aE];rfl,by rw[ala,n1];omega,by rw[ala,n1];omega,o_,o_,o_,(HK.new _ _).add _⟩
def I165 (b km:Nat)(h0:AH)(c:Int)(L:Es)(vs:List LV)(n:Int)(j:Nat)(fr:AF)(h:AH):Prop:=∃ tm p,p+j=vs.length/\fr=⟨tm,⟨[],.no,none,210⟩⟩/\Sx b km h0 h c (HE L (vs.take p) n)/\
 nth tm 0=.ptr b 0 0/\nth tm 2=i_ n/\nth tm 21=.ls (vs.map bV)/\nth tm 22=i_ (vs.length:Int)/\nth tm 23=i_ (p:Int)
theorem SW {L:Es}{vs:List LV}{n:Int}{p:Nat}{x:LV}(e:vs[p]?=some x):HE L (vs.take (p+1)) n=jC (HE L (vs.take p) n) x.idx (x.plus+n):=by
 rw[List.take_add_one,e,Option.toList_some];unfold HE;rw[List.foldl_append];rfl
theorem c165 (hK:aZ K)(m:Nat){b km:Nat}{h0:AH}{c:Int}{L:Es}(s:Sx b km h0 h c L){q:LL}(vl:VL q){n:Int}(hn:0<=n/\n<=100):
  ∃ v h',cS K (m+2) (.fn 210 [] []) [.ptr b 0 0,ba q,i_ n] .no h=some (.ret v,.no,h')/\v=.tup []/\Sx b km h0 h' (max c (q.c+n)) (HE L q.vars n):=by
 refine bh hK cf165 (ae (bD _ _ _ _) (ae (jz _ _) (ae (aG _ _ _) (aC _)))) ?_;obtain⟨H,hH⟩:∃ H:AH,H=h.new (.box [i_ q.c,.ls (q.vars.map bV)]):=⟨_,rfl⟩
 have k0:HK h H:=by rw[hH];exact HK.new _ _
 have g4:H.get h.z=some (.box [i_ q.c,.ls (q.vars.map bV)]):=by rw[hH,aE]
 have s0:=s.up k0;have gb:=s0.gb;have hvl:=vl.len;have nb:=s.nb;have hw:=bI (q.c+n) (by have:=vl.c0;omega) (by have:=vl.c1;omega);unfold b165;simp only[go_sem,simprocAttr,pB];rw[<- hH];clear hH;have s1:=s0.cst (max c (q.c+n));obtain⟨H1,hH1⟩:∃ H1:AH,H1=H.set b (.box [.map km,i_ (max c (q.c+n))]):=⟨_,rfl⟩
 have g41:H1.get h.z=some (.box [i_ q.c,.ls (q.vars.map bV)]):=by rw[hH1,aB o_];exact g4
 rw[<- hH1]at s1;simp only[go_sem,simprocAttr,Yf,gb,g4,hw];rw[<- hH1];clear hH1;simp only[go_sem,simprocAttr,Yg,g41];refine bB (I165 b km h0 (max c (q.c+n)) L q.vars n) q.vars.length o_ ⟨_,0,z_ _,rfl,s1,k_,k_,k_,k_,k_⟩ ?_;rintro j fr H2 ⟨tm,p,hp,rfl,s2,t0,t2,t21,t22,t23⟩;unfold ZD;simp only[go_sem,simprocAttr,t22,t23,Yh];refine aX (fun hlt=>?_) (fun hge=>?_)
 ·have hlt:p<q.vars.length:=o_;have hget:q.vars[p]?=some q.vars[p]:=a_ hlt;have ha:=fun h=>aK cV hget .i64 h
  have ele:=gi q.vars[p];have hw2:=aP p o_;obtain⟨r1,r2,r3,r4⟩:=vl.rng _ _ hget;have hw3:=bI (q.vars[p].plus+n) o_ o_;have hv:bV q.vars[p]=.agg [i_ q.vars[p].idx,i_ q.vars[p].plus]:=rfl;obtain⟨H3,hH3⟩:∃ H3:AH,H3=(H2.new (.box [i_ 0,i_ 0])).set H2.z (.box [i_ q.vars[p].idx,i_ q.vars[p].plus]):=⟨_,rfl⟩
  have k3:HK H2 H3:=by rw[hH3];exact(HK.new _ _).set _ (e_ _)
  have g3:H3.get H2.z=some (.box [i_ q.vars[p].idx,i_ q.vars[p].plus]):=by rw[hH3,aH]
  have s3:=s2.up k3;have gb3:=s3.gb;obtain⟨v,H4,e4,rfl,gm4,nx4,kp4⟩:=c166 hK m (L:=HE L (q.vars.take p) n) q.vars[p].idx (q.vars[p].plus+n) s3.gm;simp only[go_sem,simprocAttr,Yi,t21,t23,ha,hv];rw[<- hH3];clear hH3;simp only[go_sem,simprocAttr,t0,t2,gb3,g3,hw3,e4,t23,hw2];refine⟨j-1,o_,_,p+1,o_,rfl,?_,q_ t0,q_ t2,q_ t21,q_ t22,k_⟩;rw[SW hget];exact s3.raise gm4 nx4 kp4
 ·have hp':p=q.vars.length:=o_;subst hp';rw[List.take_length]at s2;simp only[go_sem,simprocAttr];exact⟨rfl,rfl,.inl rfl,[],rfl,.tup [],H2,bz (aC _),rfl,s2⟩
end
def adO (l:LL):Bool:=l.vars.any fun x=>decide (100<x.plus)
def Ti (l:LL):Option LL:=if adO l then none else if 100<l.c then none else some ⟨if Dm l then 0 else l.c,l.vars⟩
def Tg (r:Option LL)(v:AV):Prop:=match r with
 |none=>∃ e:Int,e≠0/\v=.tup [ba ⟨0,[]⟩,i_ e]
 |some l=>v=.tup [ba l,i_ 0]
def nI (ps:List LL)(s:Int×Es)(x:LV):Int×Es:=if x.idx<0 then (s.1,jC s.2 x.idx x.plus) else match ps[x.idx.toNat]? with
 |some q=>(max s.1 (q.c+x.plus),HE s.2 q.vars x.plus)
 |none=>s
def ahx (s:Int×Es):Option LL:=Ti ⟨s.1,lvs s.2 (eN s.2)⟩
def lT (l:LL):Int:=match l.vars[l.vars.length-1]? with
 |none=>0
 |some x=>max 0 (x.idx+1)
def nJ (l:LL)(ps:List LL):Option LL:=if (ps.length:Int)<lT l then none else ahx (l.vars.foldl (nI ps) (l.c,[]))
structure KS (K:aQ):Prop where
 srt:∀ (H:AH) (kb km:Nat) (L:Es),H.get kb=some (.box [.map km])->H.get km=some (.map (mpE L))->L.length<70000->(L.map (·.1)).Nodup->(∀ e∈L,-65536<=e.1/\e.1<=7)->K (.fn 221 [] []) [.fn 234 [] [.ptr kb 0 0]] .no H=some (.ret (.ls ((eN L).map AG.aO)),.no,H)
theorem HG (h:AH):cE (.agg [i_ 0,.nl]) h=(ba ⟨0,[]⟩,h):=by
 rw[bG (by simp[AV.free,AV.ale])];simp[AV.norm,AV.ald,ba]
theorem Bt (h:AH):bT h [i_ 0,.nl] []=.val (.agg [i_ 0,.nl]) h:=(rfl)
theorem abi (c:Int)(h:AH):cE (.agg [i_ c,.nl]) h=(ba ⟨c,[]⟩,h):=by
 rw[bG (by simp[AV.free,AV.ale])];simp[AV.norm,AV.ald,ba]
theorem SL (h:AH)(x:Int):bT h [i_ 0,.nl] [(0,1,i_ x)]=.val (.agg [i_ x,.nl]) h:=(rfl)
theorem SK (h:AH)(x y:Int):bT h [i_ 0,i_ 0] [(0,1,i_ x),(1,1,i_ y)]=.val (.agg [i_ x,i_ y]) h:=(rfl)
section
variable {K:aQ}{h:AH}
def I199 (l:LL)(b:Nat)(h0:AH)(j:Nat)(fr:AF)(h:AH):Prop:=∃ tm p,p+j=l.vars.length/\fr=⟨tm,⟨[],.no,none,223⟩⟩/\HK h0 h/\b+1<h.z/\h.get b=some (.box [i_ l.c,.ls (l.vars.map bV)])/\h.get (b+1)=some (.box [i_ 0,.nl])/\
  nth tm 1=.ptr b 0 0/\nth tm 2=.ptr (b+1) 0 0/\nth tm 7=.ls (l.vars.map bV)/\nth tm 8=i_ (l.vars.length:Int)/\nth tm 9=i_ (p:Int)/\(l.vars.take p).any (fun x=>decide (100<x.plus))=false
theorem c199 (hK:aZ K)(m:Nat)(l:LL)(hl:l.vars.length<1000000):
  ∃ v h',cS K (m+5) (.fn 223 [] []) [ba l] .no h=some (.ret v,.no,h')/\Tg (Ti l) v/\HK h h':=by
 refine bh hK cf199 (ae (jz l h) (aC _)) ?_;obtain⟨H,hH⟩:∃ H:AH,H=(h.new (.box [i_ l.c,.ls (l.vars.map bV)])).new (.box [i_ 0,.nl]):=⟨_,rfl⟩
 have n1:=ala h (.box [i_ l.c,.ls (l.vars.map bV)]);have k0:HK h H:=by rw[hH];exact(HK.new _ _).add _
 have g1:H.get h.z=some (.box [i_ l.c,.ls (l.vars.map bV)]):=by rw[hH,aL o_,aE]
 have g2:H.get (h.z+1)=some (.box [i_ 0,.nl]):=by rw[hH,<- n1,aE]
 have n0:H.z=h.z+2:=by rw[hH,ala,n1]
 unfold b199;simp only[go_sem,simprocAttr,pB,n1];rw[<- hH];clear hH;simp only[go_sem,simprocAttr,XR,g1,L_];refine bB (I199 l h.z h) l.vars.length o_ ⟨_,0,z_ _,rfl,k0,o_,g1,g2,k_,k_,k_,k_,k_,by simp⟩ ?_;rintro j fr H2 ⟨tm,p,hp,rfl,hk2,hn2,g12,g22,t1,t2,t7,t8,t9,hany⟩;unfold ZB;simp only[go_sem,simprocAttr,t8,t9,XU];refine aX (fun hlt=>?_) (fun hge=>?_)
 ·have hlt:p<l.vars.length:=o_;have hget:l.vars[p]?=some l.vars[p]:=a_ hlt;have ha:=fun h=>aK cV hget .i64 h
  have ele:=gi l.vars[p];have hw:=aP p o_;have hv:bV l.vars[p]=.agg [i_ l.vars[p].idx,i_ l.vars[p].plus]:=rfl;obtain⟨H3,hH3⟩:∃ H3:AH,H3=(H2.new (.box [i_ 0,i_ 0])).set H2.z (.box [i_ l.vars[p].idx,i_ l.vars[p].plus]):=⟨_,rfl⟩
  have k3:HK H2 H3:=by rw[hH3];exact(HK.new _ _).set _ (e_ _)
  have g3:H3.get H2.z=some (.box [i_ l.vars[p].idx,i_ l.vars[p].plus]):=by rw[hH3,aH]
  have nx3:=k3.z;have g13:=(k3.kw _ o_).trans g12;have g23:=(k3.kw _ o_).trans g22;simp only[go_sem,simprocAttr,XV,t7,t9,ha,hv];rw[<- hH3];clear hH3;simp only[go_sem,simprocAttr,XW,g3];refine aX (fun hbig=>?_) (fun hbig=>?_)
  ·simp only[go_sem,simprocAttr,Bt,t2,g23];have hb:adO l=true:=nD hget (T_ hbig);refine⟨rfl,rfl,.inr rfl,[.agg [i_ 0,.nl],i_ 15],?_,.tup [ba ⟨0,[]⟩,i_ 15],_,bz (ae (HG _) (ae (aG _ _ _) (aC _))),?_,(hk2.trans k3).set _ o_⟩
   ·simp only[go_sem,simprocAttr,adF,t2]
   ·unfold Ti;rw[P_ hb];exact⟨15,by decide,rfl⟩
  ·simp only[go_sem,simprocAttr,t9,hw];exact⟨j-1,o_,_,p+1,o_,rfl,hk2.trans k3,o_,g13,g23,q_ t1,q_ t2,q_ t7,q_ t8,k_,iW hget hany (D_ hbig)⟩
 ·have hp':p=l.vars.length:=o_;subst hp';rw[List.take_length]at hany;have hb:adO l=false:=hany;simp only[go_sem,simprocAttr,XS,t1,g12];refine aX (fun hc=>?_) (fun hc=>?_)
  ·simp only[go_sem,simprocAttr,Bt,t2,g22];refine⟨rfl,rfl,.inr rfl,[.agg [i_ 0,.nl],i_ 15],?_,.tup [ba ⟨0,[]⟩,i_ 15],_,bz (ae (HG _) (ae (aG _ _ _) (aC _))),?_,hk2.set _ o_⟩
   ·simp only[go_sem,simprocAttr,adF,t2]
   ·unfold Ti;rw[hb,N_ (by decide),P_ hc];exact⟨15,by decide,rfl⟩
  ·obtain⟨v,H4,e4,rfl,k4⟩:=c192 (h:=H2) hK m l hl;have nx4:=k4.z;have g14:=(k4.kw _ o_).trans g12;have g24:=(k4.kw _ o_).trans g22;have hk4:=hk2.trans k4;have hlim:Ti l=some ⟨if Dm l then 0 else l.c,l.vars⟩:=by unfold Ti;rw[hb,N_ (by decide),N_ hc]
   simp only[go_sem,simprocAttr,XT,t1,g12,lp,e4];cases hcv:Dm l with
   |true=>
    rw[hcv]at hlim;have g25:(H4.set h.z (.box [i_ 0,.ls (l.vars.map bV)])).get (h.z+1)=some (.box [i_ 0,.nl]):=(aB o_).trans g24;simp only[go_sem,simprocAttr,g14,HR,t1,t2,g25];refine⟨rfl,rfl,.inr rfl,[ba ⟨0,l.vars⟩,i_ 0],?_,.tup [ba ⟨0,l.vars⟩,i_ 0],_,bz (ae (jz _ _) (ae (aG _ _ _) (aC _))),?_,(hk4.set _ o_).set _ o_⟩
    ·simp only[go_sem,simprocAttr,adF,t2];rfl
    ·rw[hlim];rfl
   |false=>
    rw[hcv]at hlim;simp only[go_sem,simprocAttr,g14,g24,HR,t1,t2];refine⟨rfl,rfl,.inr rfl,[ba l,i_ 0],?_,.tup [ba l,i_ 0],_,bz (ae (jz _ _) (ae (aG _ _ _) (aC _))),?_,hk4.set _ o_⟩
    ·simp only[go_sem,simprocAttr,adF,t2];rfl
    ·rw[hlim];rfl
theorem c210 (hK:aZ K)(m km:Nat):
  ∃ v h',cS K (m+1) (.fn 222 [] []) [.map km] .no h=some (.ret v,.no,h')/\v=.fn 234 [] [.ptr h.z 0 0]/\h'=h.new (.box [.map km]):=by
 refine bh hK cf210 (ae (yW _ _) (aC _)) ?_;have hb:∀ H:AH,dB H 1 (.map km)=.val (.ptr H.z 0 0) (H.new (.box [.map km])):=fun H=>(rfl)
 unfold b210;simp only[go_sem,simprocAttr,hb,XO];exact⟨rfl,rfl,.inr rfl,[.fn 234 [] [.ptr h.z 0 0]],by simp only[go_sem,simprocAttr,r210],.fn 234 [] [.ptr h.z 0 0],_,aS (by intro l e;cases e) (by show cE (.fn 234 [] [.ptr h.z 0 0]) _=_;rw[iR];simp[AV.ald];rfl),rfl,rfl⟩
theorem Wu {base:Nat}{H:AH}{V:AV}{c:Int}{vs:List LV}(o:Own base 2 true H V (vs.map bV)):
  ∃ H',cE (.agg [i_ c,V]) H=(ba ⟨c,vs⟩,H')/\H'.z=H.z/\∀ k,k<base->H'.get k=H.get k:=by
 rcases own_shut o (fun e=>by cases e) with⟨rfl,e,_⟩|⟨k,g,e1,e2,e3,e4⟩
 ·rw[List.map_eq_nil_iff]at e;subst e;exact⟨H,abi c H,rfl,fun _ _=>rfl⟩
 ·subst e1;refine⟨H.set k (.row g 2 true (flat (vs.map bV)) ((vs.map bV).length*2)),?_,alb _ _ _,fun k' hk=>aB o_⟩;show((AV.agg (cC _ H).1).norm,(cC _ H).2)=_;have e5:cC [i_ c,.row k g 2 0 (vs.map bV).length] H=([i_ c,.ls (vs.map bV)],H.set k (.row g 2 true (flat (vs.map bV)) ((vs.map bV).length*2))):=by
   show(_::(cP (.row k g 2 0 (vs.map bV).length) H).1 :: [],(cP (.row k g 2 0 (vs.map bV).length) H).2)=_;rw[e2];rfl
  rw[e5];simp[ba,AV.norm,AV.ald,bw ph]
def I167 (b _km t4 base:Nat)(h0 H0:AH)(c:Int)(L:Es)(ks:List Int)(j:Nat)(fr:AF)(h:AH):Prop:=∃ tm p V,p+j=ks.length/\fr=⟨tm,⟨[],.no,none,211⟩⟩/\HK h0 h/\base<=h.z/\
 nth tm 0=.ptr b 0 0/\nth tm 2=.ptr h0.z 0 0/\nth tm 4=.ptr t4 0 0/\nth tm 17=.ls (ks.map AG.aO)/\nth tm 18=i_ (ks.length:Int)/\nth tm 19=i_ (p:Int)/\
 h.get t4=some (.box [i_ c,V])/\Own base 2 true h V ((lvs L (ks.take p)).map bV)/\∀ k,k<base->k≠t4->h.get k=H0.get k
theorem Vp {L:Es}{ks:List Int}{p:Nat}{z:Int}(e:ks[p]?=some z):lvs L (ks.take (p+1))=lvs L (ks.take p)++[⟨z,(lkg L z).getD 0⟩]:=by
 rw[List.take_add_one,e,Option.toList_some];unfold lvs;rw[List.map_append];rfl
theorem wB:∀ {L:Es} {i:Int},i∈L.map (·.1)->∃ o,lkg L i=some o
 |[],_,h=>by simp at h
 |e::L,i,h=>by
  rw[lkg];by_cases q:i=e.1
  ·exact⟨_,P_ q⟩
  ·rw[N_ q];simp only[List.map_cons,List.mem_cons]at h;exact wB (h.resolve_left q)
theorem c167 (hK:aZ K)(ks:KS K)(m:Nat){b km:Nat}{h0:AH}{c:Int}{L:Es}(s:Sx b km h0 h c L)(ge:GE L):
  ∃ v h',cS K (m+6) (.fn 211 [] []) [.ptr b 0 0] .no h=some (.ret v,.no,h')/\Tg (ahx (c,L)) v/\HK h h':=by
 refine bh hK cf167 (ae (bD _ _ _ _) (aC _)) ?_;have nb:=s.nb;have nk:=s.nk;have gb:=s.gb;have few:=ge.few;obtain⟨H,hH⟩:∃ H:AH,H=((h.new (.box [i_ 0,.nl])).new (.box [i_ 0,.nl])).set (h.z+1) (.box [i_ c,.nl]):=⟨_,rfl⟩
 have n1:=ala h (.box [i_ 0,.nl]);have k0:HK h H:=by rw[hH];exact((HK.new _ _).add _).set _ o_
 have n0:H.z=h.z+2:=by rw[hH,alb,ala,n1]
 have g2:H.get h.z=some (.box [i_ 0,.nl]):=by rw[hH,aB o_,aL o_,aE]
 have g4:H.get (h.z+1)=some (.box [i_ c,.nl]):=by rw[hH,aH]
 have gb0:=(k0.kw _ nb).trans gb;have gbn:=(aL (x:=.box [i_ 0,.nl]) (show b≠h.z by omega)).trans gb;have gq:((h.new (.box [i_ 0,.nl])).new (.box [i_ 0,.nl])).get (h.z+1)=some (.box [i_ 0,.nl]):=by rw[<- n1,aE]
 have s0:=s.up k0;obtain⟨v,H1,e1,rfl,hH1⟩:=c210 (h:=H) hK (m+4) km;have k1:HK H H1:=by rw[hH1];exact HK.new _ _
 have g31:H1.get H.z=some (.box [.map km]):=by rw[hH1,aE]
 have gm1:=(k1.kw _ o_).trans s0.gm;have g41:=(k1.kw _ o_).trans g4;have g21:=(k1.kw _ o_).trans g2;have n2:H1.z=H.z+1:=by rw[hH1,ala]
 clear hH1;have e2:cS K (m+5) (.fn 221 [] []) [.fn 234 [] [.ptr H.z 0 0]] .no H1=some (.ret (.ls ((eN L).map AG.aO)),.no,H1):=
  rV (ae (by rw[iR];simp[AV.ald];rfl) (aC _)) (ks.srt H1 H.z km L g31 gm1 o_ ge.nd ge.kr) (aS (by intro l e;cases e) (dM _ _)) _
 have kl:(eN L).length<=65544:=by unfold eN;rw[List.length_mergeSort,L_];exact few
 have k01:=k0.trans k1;unfold b167;simp only[go_sem,simprocAttr,n1,XZ,gbn,SL,gq];rw[<- hH];clear hH;simp only[go_sem,simprocAttr,Ya,gb0,e1,e2,L_];refine bB (I167 b km (h.z+1) H1.z h H1 c L (eN L)) (eN L).length o_ ⟨_,0,.nl,z_ _,rfl,k01,e_ _,k_,k_,k_,k_,k_,k_,g41,fp _ _ _ _,fun _ _ _=>rfl⟩ ?_;rintro j fr H2 ⟨tm,p,V,hp,rfl,hk2,hn2,t0,t2,t4,t17,t18,t19,g42,own,kp⟩;have gb2:=(kp b o_ o_).trans ((k1.kw _ o_).trans gb0);have gm2:=(kp km o_ o_).trans gm1;unfold ZC;simp only[go_sem,simprocAttr,t18,t19,Yc];refine aX (fun hlt=>?_) (fun hge=>?_)
 ·have hlt:p<(eN L).length:=o_;have hget:(eN L)[p]?=some (eN L)[p]:=a_ hlt;have ha:=fun h=>aK (f:=AG.aO) (sz:=1) (fun _=>rfl) hget .i64 h
  have ele:=cu (eN L)[p];have hw:=aP p o_;have hlk:fm H2 1 (i_ 0) false (.map km) (i_ (eN L)[p])=_:=kY (kf:=AG.aO) (t:=1) AG.aO dI gm2 (eN L)[p] (i_ 0) false;obtain⟨o,ho⟩:=wB (L:=L) (i:=(eN L)[p]) ((List.mergeSort_perm _ _).mem_iff.1 (List.getElem_mem hlt));have ll:(lvs L ((eN L).take p)).length<100000:=by unfold lvs;rw[L_,List.length_take];omega
  obtain⟨V',H3,ea,own3,hn3,kp3,_,_,_,kk,gg,rfl,_⟩:=dD (x:=bV ⟨(eN L)[p],o⟩) (z:=[i_ 0,i_ 0]) (bytes:=16) own o_ rfl rfl rfl rfl (by rw[L_];exact ll) (by decide);rw[ho]at hlk;simp only[AG.aO]at ele;unfold bV at ea;have g43:=(kp3 _ o_).trans g42;simp only[go_sem,simprocAttr,Ye,t0,t4,t17,t19,ha,ele,g42,gb2,hlk,AG.aO,cond_false,SK,ea,g43,hw];refine⟨j-1,o_,_,p+1,_,o_,rfl,⟨by rw[alb];exact Nat.le_trans hk2.z hn3,fun k hk=>by rw[aB o_];exact(kp3 k o_).trans (hk2.kw k hk)⟩,by rw[alb];omega,q_ t0,q_ t2,q_ t4,q_ t17,q_ t18,k_,aH _ _ _,?_,fun k q1 q2=>(aB q2).trans ((kp3 k q1).trans (kp k q1 q2))⟩;rw[Vp hget,List.map_append,ho];rw[L_]at own3;exact cd own3 (by rw[alb];exact e_ _) (fun b q1 q2=>aB o_)
 ·have hp':p=(eN L).length:=o_;subst hp';rw[List.take_length]at own;obtain⟨H4,ec,hn4,kp4⟩:=Wu (c:=c) own;obtain⟨v,H5,e5,ho,k5⟩:=c199 (h:=H4) hK m ⟨c,lvs L (eN L)⟩ (by unfold lvs;rw[L_];omega);rw[<- jo (f:=223) (c:=[]) (ae ec (aC _)) (ae (jz _ _) (aC _))]at e5;have g25:=(k5.kw _ o_).trans ((kp4 h.z o_).trans ((kp h.z o_ o_).trans g21));have hk5:HK h H5:=⟨by have:=k5.z;omega,fun k hk=>(k5.kw k o_).trans ((kp4 k o_).trans (hk2.kw k hk))⟩;obtain⟨w,e,rfl⟩:∃ w e,v=.tup [ba w,i_ e]:=by
   unfold Tg at ho;split at ho
   ·obtain⟨e,_,rfl⟩:=ho;exact⟨_,_,rfl⟩
   ·exact⟨_,_,ho⟩
  simp only[go_sem,simprocAttr,Yb,t4,g42,e5,t2];have hw:ba w=.agg [i_ w.c,.ls (w.vars.map bV)]:=rfl;simp only[go_sem,simprocAttr,hw,g25];refine⟨rfl,rfl,.inr rfl,[ba w,i_ e],?_,.tup [ba w,i_ e],_,bz (ae (jz _ _) (ae (aG _ _ _) (aC _))),ho,hk5.set _ (e_ _)⟩;simp only[go_sem,simprocAttr,r167,t2];rfl
theorem c329 (hK:aZ K)(m:Nat){l:LL}(vl:VL l):
  ∃ v h',cS K (m+6) (.fn 207 [] []) [ba l] .no h=some (.ret v,.no,h')/\v=i_ (lT l)/\HK h h':=by
 refine bh hK cf329 (ae (jz l h) (aC _)) ?_;have hl:=vl.len;obtain⟨H,hH⟩:∃ H:AH,H=h.new (.box [i_ l.c,.ls (l.vars.map bV)]):=⟨_,rfl⟩
 have k0:HK h H:=by rw[hH];exact HK.new _ _
 have n0:H.z=h.z+1:=by rw[hH,ala]
 have g0:H.get h.z=some (.box [i_ l.c,.ls (l.vars.map bV)]):=by rw[hH,aE]
 obtain⟨v,H1,e1,rfl,k1⟩:=ak0 (h:=H) hK m vl o_;have g1:=(k1.kw _ o_).trans g0;unfold b329;simp only[go_sem,simprocAttr,pB];rw[<- hH];clear hH;simp only[go_sem,simprocAttr,Xc,g0,L_,lp,e1];by_cases hz:l.vars.length=0
 ·have d:decide ((l.vars.length:Int) > 0)=false:=d_;have hp:lT l=0:=by unfold lT;rw[List.getElem?_eq_none o_]
  simp only[go_sem,simprocAttr,d,Xd];exact⟨rfl,rfl,.inr rfl,[i_ 0],by simp only[go_sem,simprocAttr,akO],i_ 0,_,aS (by intro l e;cases e) (aG _ _ _),by rw[hp],k0.trans k1⟩
 ·have d:decide ((l.vars.length:Int) > 0)=true:=t_;have hget:l.vars[l.vars.length-1]?=some l.vars[l.vars.length-1]:=a_ o_;have ha:=fun h=>aK cV hget .i64 h
  have hw:IntKind.wrap .i64 ((l.vars.length:Int)-1)=((l.vars.length-1:Nat):Int):=by rw[bI _ o_ o_];omega
  have hv:bV l.vars[l.vars.length-1]=.agg [i_ l.vars[l.vars.length-1].idx,i_ l.vars[l.vars.length-1].plus]:=rfl;obtain⟨r1,r2,_,_⟩:=vl.rng _ _ hget;have hw2:=bI (l.vars[l.vars.length-1].idx+1) o_ o_;have hp:lT l=max 0 (l.vars[l.vars.length-1].idx+1):=by unfold lT;rw[hget]
  simp only[go_sem,simprocAttr,d,g1,hw,ha,hv,hw2];exact⟨rfl,rfl,.inr rfl,[i_ (max 0 (l.vars[l.vars.length-1].idx+1))],by simp only[go_sem,simprocAttr,akO],i_ (max 0 (l.vars[l.vars.length-1].idx+1)),_,aS (by intro l e;cases e) (aG _ _ _),by rw[hp],k0.trans k1⟩
theorem c208 (hK:aZ K)(m:Nat){l:LL}(vl:VL l):
  ∃ v h',cS K (m+6) (.fn 220 [] []) [ba l] .no h=some (.ret v,.no,h')/\v=.bool false/\HK h h':=by
 refine bh hK cf208 (ae (jz l h) (aC _)) ?_;obtain⟨v,H1,e1,rfl,k1⟩:=ak0 (h:=h.new (.box [i_ l.c,.ls (l.vars.map bV)])) hK m vl (by have:=vl.len;omega);unfold b208;simp only[go_sem,simprocAttr,pB,XP,lp,e1];exact⟨rfl,rfl,.inr rfl,[.bool false],by simp only[go_sem,simprocAttr,r208],.bool false,_,aS (by intro l e;cases e) (aW _ _),rfl,(HK.new _ _).trans k1⟩
theorem c163 (hK:aZ K)(m:Nat){ls:List LL}(vl:∀ l∈ls,VL l)(hl:ls.length<1000000):
  ∃ v h',cS K (m+9) (.fn 206 [] []) [.ls (ls.map ba)] .no h=some (.ret v,.no,h')/\v=.bool true/\HK h h':=by
 refine bh hK cf163 (ae (pZ ls h) (aC _)) ?_;have pr:Pr K (m+6) (.fn 220 [] []) ba (fun _=>false) ls (fun _=>True):=
  ⟨fun _ _ _ _=>trivial,fun x hx H _=>by obtain⟨v,h',e,rfl,hk⟩:=c208 (h:=H) hK m (vl x hx);exact⟨h',e,hk⟩,fun h=>by rw[iR];rfl⟩
 obtain⟨v,H1,e1,rfl,k1⟩:=c25 (h:=h) hK pr trivial hl;have hn:(ls.any fun _=>false)=false:=by simp
 rw[hn]at e1;unfold b163;simp only[go_sem,simprocAttr,Yk,e1];exact⟨rfl,rfl,.inr rfl,[.bool true],by simp only[go_sem,simprocAttr,r163],.bool true,_,aS (by intro l e;cases e) (aW _ _),rfl,k1⟩
end
