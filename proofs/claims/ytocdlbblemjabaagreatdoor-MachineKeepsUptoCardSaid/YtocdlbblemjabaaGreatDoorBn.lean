/- MachineKeeps: instance (no condition). -/
import Derived.Test.YtocdlbblemjabaaGreatDoorBm
namespace Go.Proofs.YtocdlbblemjabaaGreatDoor
open Go.AG Go.AG.MK
theorem acH {L:Es}(hn:(L.map (·.1)).Nodup):(eN L).Pairwise (· < ·):=by
 have p:=List.mergeSort_perm (L.map (·.1)) fun x y=>decide (x<=y)
 have h1:(eN L).Pairwise (fun a b=>decide (a<=b)=true):=List.pairwise_mergeSort (fun a b c h1 h2=>by simp at *;omega) (fun a b=>by simp;omega) _;have h2:(eN L).Pairwise (·≠·):=p.nodup_iff.2 hn;exact(h1.and h2).imp fun h=>by
  have:=h.1;have:=h.2;simp at *;omega
theorem acx {l r:LL}(h0:0<=l.c)(hr:∀ (i:Nat) x,l.vars[i]?=some x->-65536<=x.idx/\x.idx<=7/\0<=x.plus)(ho:∀ (i:Nat) x y,l.vars[i]?=some x->l.vars[i+1]?=some y->x.idx<y.idx)(h:Ti l=some r):VL r:=by
 unfold Ti at h;cases hb:adO l with
 |true=>rw[hb]at h;cases h
 |false=>
  rw[hb,N_ (by decide)]at h;by_cases hc:100<l.c
  ·rw[P_ hc]at h;cases h
  ·rw[N_ hc]at h;cases h;have hpl:∀ (i:Nat) x,l.vars[i]?=some x->x.plus<=100:=by
    intro i x hx;unfold adO at hb;have:=List.any_eq_false.1 hb x (m_ hx);simp at this;omega
   refine⟨by show 0<=(if Dm l then 0 else l.c);split<;>omega,by show(if Dm l then 0 else l.c)<=100;split<;>omega,fun i x hx=>⟨(hr i x hx).1,(hr i x hx).2.1,(hr i x hx).2.2,hpl i x hx⟩,ho,fun hpos i x hx=>?_⟩;cases hcv:Dm l with
   |true=>rw[hcv]at hpos;simp at hpos
   |false=>
    show x.plus<(if false=true then 0 else l.c);unfold Dm at hcv;have:=List.any_eq_false.1 hcv x (m_ hx);simp at this ⊢;omega
theorem aip {L:Es}(g:GE L){k v:Int}(h:lkg L k=some v):(-65536<=k/\k<=7)/\0<=v/\v<=200:=⟨g.kr _ (sF h),g.pr _ (sF h)⟩
theorem acz {s:Int×Es}(h0:0<=s.1)(g:GE s.2){r:LL}(h:ahx s=some r):VL r:=by
 refine acx h0 (fun i x hx=>?_) (fun i x y hx hy=>?_) h
 ·unfold lvs at hx;rw[List.getElem?_map]at hx;cases hk:(eN s.2)[i]? with
  |none=>rw[hk]at hx;cases hx
  |some z=>
   rw[hk]at hx;cases hx;obtain⟨o,ho⟩:=wB (L:=s.2) (i:=z) ((List.mergeSort_perm _ _).mem_iff.1 (m_ hk));obtain⟨⟨a,b⟩,c,_⟩:=aip g ho;show -65536<=z/\z<=7/\0<=(lkg s.2 z).getD 0;rw[ho];exact⟨a,b,c⟩
 ·unfold lvs at hx hy;rw[List.getElem?_map]at hx hy;cases hk:(eN s.2)[i]? with
  |none=>rw[hk]at hx;cases hx
  |some z=>
   cases hk2:(eN s.2)[i+1]? with
   |none=>rw[hk2]at hy;cases hy
   |some w=>
    rw[hk]at hx;rw[hk2]at hy;cases hx;cases hy;show z<w;obtain⟨l1,e1⟩:=E_.1 hk;obtain⟨l2,e2⟩:=E_.1 hk2;have:=List.pairwise_iff_getElem.1 (acH g.nd) i (i+1) l1 l2 o_;rw[e1,e2]at this;exact this
theorem Za {ps:List LL}(hp:∀ l∈ps,VL l):∀ (vs:List LV) (s:Int×Es),0<=s.1->0<=(vs.foldl (nI ps) s).1
 |[],_,h=>h
 |x::vs,s,h=>by
  refine Za hp vs _ ?_;unfold nI;split
  ·exact h
  ·split
   ·show 0<=max s.1 _;omega
   ·exact h
theorem Vq {l:LL}(vl:VL l){ps:List LL}(vp:∀ l∈ps,VL l){r:LL}(h:nJ l ps=some r):VL r:=by
 unfold nJ at h;split at h
 ·cases h
 ·exact acz (Za vp _ _ vl.c0) (GE.fold vp _ GE.nil (Bf vl)) h
theorem EB {α β:Type}{f:α->Option β}: ∀ {l:List α} {r:List β},mapG f l=some r->∀ y∈r,∃ x∈l,f x=some y
 |[],r,h,y,hy=>by cases h;cases hy
 |t::l,r,h,y,hy=>by
  rw[mapG]at h;cases ht:f t with
  |none=>rw[ht]at h;cases h
  |some x=>
   rw[ht]at h;simp only at h;cases hl:mapG f l with
   |none=>rw[hl]at h;cases h
   |some s=>
    rw[hl]at h;cases h;rcases List.mem_cons.1 hy with rfl|hy
    ·exact⟨t,by simp,ht⟩
    ·obtain⟨z,z1,z2⟩:=EB hl y hy;exact⟨z,by simp[z1],z2⟩
mutual
theorem EP {ps:List LL}(vp:∀ l∈ps,VL l):∀ (t u:T),TOK t->instT ps t=some u->TOK u/\size u=size t
 |.mk k i nm ls ks,u,tok,h=>by
  rw[instT]at h;rw[TOK]at tok;cases h1:mapG (fun l=>nJ l ps) ls with
  |none=>rw[h1]at h;cases h
  |some ls'=>
   rw[h1]at h;simp only at h;cases h2:mT ps ks with
   |none=>rw[h2]at h;cases h
   |some ks'=>
    rw[h2]at h;cases h;obtain⟨a,b,c⟩:=yJ vp ks ks' tok.2 h2;have hl:=EC h1;refine⟨?_,by simp only[size,b]⟩;rw[TOK];obtain⟨n1,n2,n3,n4,n5,n6,n7,n8,n9,n10,n11⟩:=tok.1;refine⟨⟨n1,n2,by rw[c];exact n3,n4,n5,n6,n7,n8,n9,⟨fun q=>by rw[hl];exact n10.1 q,fun q=>by rw[hl];exact n10.2.1 q,fun q1 q2=>List.eq_nil_of_length_eq_zero (by rw[hl,n10.2.2 q1 q2];rfl)⟩,fun l hl=>?_⟩,a⟩;obtain⟨x,hx,e⟩:=EB h1 l hl;exact Vq (n11 x hx) vp e
theorem yJ {ps:List LL}(vp:∀ l∈ps,VL l):∀ (ks us:List T),xv ks->mT ps ks=some us->xv us/\bO us=bO ks/\us.length=ks.length
 |[],us,_,h=>by rw[mT]at h;cases h;exact⟨by rw[xv];trivial,rfl,rfl⟩
 |t::l,us,tok,h=>by
  rw[mT]at h;rw[xv]at tok;cases h1:instT ps t with
  |none=>rw[h1]at h;cases h
  |some y=>
   rw[h1]at h;simp only at h;cases h2:mT ps l with
   |none=>rw[h2]at h;cases h
   |some r=>
    rw[h2]at h;cases h;obtain⟨a,b⟩:=EP vp t y tok.1 h1;obtain⟨c,d,e⟩:=yJ vp l r tok.2 h2;exact⟨by rw[xv];exact⟨a,c⟩,by simp only[bO,b,d],by simp[e]⟩
end
section
variable {K:aQ}{A:Ma}{B B1:Nat}{E:AV}
def inst (t:T)(ls:List LL):Option T:=instT ls t
theorem c1104 (hK:aZ K)(km:KM K)(ks:KS K):Ci K A B B1 E inst 200000:=by
 intro m M gN gF h t ls hm s g tok hs vl hl;obtain⟨m,rfl⟩:∃ k,m=k+2:=⟨m-2,o_⟩
 refine fG hK ajo (ae (bD _ _ _ _) (ae (bR _ _) (ae (pZ _ _) (aC _)))) ?_;have b1:=s.b1;obtain⟨H,hH⟩:∃ H:AH,H=h.new (.box (aJ t)):=⟨_,rfl⟩
 have k0:HK h H:=by subst hH;exact HK.new _ _
 have n0:H.z=h.z+1:=by subst hH;rw[ala]
 have g4:H.get h.z=some (.box (aJ t)):=by subst hH;rw[aE]
 obtain⟨v,H1,e1,ho,k1⟩:=c316 hK ks vl o_ m t H o_ o_ tok;obtain⟨w,e,rfl,q0,q1⟩:=Ox ho;have nx1:=k1.z;have hst:=du (h:=H1.new (.box [i_ 0,i_ 0,.str (bs []),.nl,.nl])) (k:=H1.z) (aE _ _) w;obtain⟨H2,hH2⟩:∃ H2:AH,H2=(H1.new (.box [i_ 0,i_ 0,.str (bs []),.nl,.nl])).set H1.z (.box (aJ w)):=⟨_,rfl⟩
 have k2:HK H1 H2:=by subst hH2;exact HK.new_set _ _ _
 have g8:H2.get H1.z=some (.box (aJ w)):=by subst hH2;exact aH _ _ _
 rw[<- hH2]at hst;clear hH2;have k02:=(k0.trans k1).trans k2;have s2:=s.hk k02;unfold aJ at hH g4 g8;rw[aU t]at e1 ⊢;unfold agz;simp only[go_sem,simprocAttr];rw[<- hH];clear hH;simp only[go_sem,simprocAttr,KO,g4,e1,hst,KP];by_cases he:e=0
 ·subst he;have hi:=q0 rfl;obtain⟨tw,sw⟩:=EP vl t w tok hi;have d0:decide ((0:Int)=0)=true:=rfl;obtain⟨o8,H8,e8,hm8,q8⟩:=c1144 hK km (size w) w (m+1) M gN gF H2 (e_ _) o_ tw s2 g;rw[aU w]at e8;simp only[go_sem,simprocAttr,KQ,g8];rcases q8 with⟨v,rfl,M8,gN8,gF8,st8,g8',le8,sm8,r,rfl,a8⟩|rfl
  ·simp only[go_sem,simprocAttr,e8];refine mW (vs:=[i_ r,.bool true]) (.inr rfl) (by simp only[go_sem,simprocAttr,aax]) (bz (ae (aG _ _ _) (ae (aW _ _) (aC _)))) ((HK.m k02).trans hm8) ⟨M8,gN8,gF8,st8,g8',le8,sm8,?_⟩;unfold inV inst;rw[hi];exact⟨r,rfl,a8⟩
  ·simp only[go_sem,simprocAttr,e8];exact cB ((HK.m k02).trans hm8)
 ·have he':decide (e=0)=false:=D_ he;have hi:=q1 he;simp only[go_sem,simprocAttr,he'];refine mW (vs:=[i_ 0,.bool false]) (.inr rfl) (by simp only[go_sem,simprocAttr,aax]) (bz (ae (aG _ _ _) (ae (aW _ _) (aC _)))) (HK.m k02) ⟨M,gN,gF,s2,g,Le.refl M,Sm.refl M,?_⟩;unfold inV inst;rw[hi]
end
section
variable {K:aQ}{h:AH}
theorem iA (l:List NV)(h:AH):cE (.agg [.ls (l.map aT)]) h=(.agg [.ls (l.map aT)],h):=by
 rw[bG (show(AV.agg [.ls (l.map aT)]).free=true by simp only[AV.free,AV.ale,Bool.and_true];exact bE eQ l)];simp only[AV.norm,AV.ald,bw mj l]
theorem c1095 (hK:aZ K)(m:Nat){k:Nat}{gs:List NV}(x:Int)(g:h.get k=some (.box [.ls (gs.map aT)]))(_hl:gs.length<=65536):
  ∃ v h',cS K (m+1) (.fn 95 [] [.ptr k 0 0]) [i_ x] .no h=some (.ret v,.no,h')/\v=.bool (decide (x<0∨(gs.length:Int)<=x))/\h'=h:=by
 refine bh hK ajw (ae (aG _ _ _) (aC _)) ?_;unfold agH;by_cases hx:x<0
 ·have d:decide (x<0)=true:=T_ hx;simp only[go_sem,simprocAttr,AK,d];exact⟨rfl,rfl,.inr rfl,[.bool true],by simp only[go_sem,simprocAttr,aaB],.bool true,_,aS (by intro l e;cases e) (aW _ _),by rw[T_ (.inl hx)],rfl⟩
 ·have d:decide (x<0)=false:=D_ hx;simp only[go_sem,simprocAttr,AK,d,g,L_];exact⟨rfl,rfl,.inr rfl,[.bool (decide (x≥(gs.length:Int)))],by simp only[go_sem,simprocAttr,aaB],.bool (decide (x≥(gs.length:Int))),_,aS (by intro l e;cases e) (aW _ _),by congr 1;simp[hx],rfl⟩
theorem c1056 (hK:aZ K)(m:Nat){gs:List NV}(x:Int)(hl:gs.length<=65536):
  ∃ v h',cS K (m+4) (.fn 56 [] []) [.agg [.ls (gs.map aT)],.ls ([x].map AG.aO)] .no h=some (.ret v,.no,h')/\v=.bool (decide (0<=x/\x<(gs.length:Int)))/\HK h h':=by
 refine bh hK ajQ (ae (iA gs h) (ae (dM [x] h) (aC _))) ?_;have hb:∀ H:AH,dB H 1 (.agg [.ls (gs.map aT)])=.val (.ptr H.z 0 0) (H.new (.box [.ls (gs.map aT)])):=fun H=>bN _ 1 rfl
 have pr:Pr K (m+1) (.fn 95 [] [.ptr h.z 0 0]) AG.aO (fun x=>decide (x<0∨(gs.length:Int)<=x)) [x] (fun H'=>H'.get h.z=some (.box [.ls (gs.map aT)])/\h.z<H'.z):=
  ⟨fun a b ⟨q1,q2⟩ k=>⟨(k.kw _ q2).trans q1,by have:=k.z;omega⟩,fun x _ H' ⟨q1,q2⟩=>by obtain⟨v,h',e,rfl,rfl⟩:=c1095 hK m x q1 hl;exact⟨_,e,HK.refl _⟩,fun h=>by rw[iR];simp[AV.ald];rfl⟩
 obtain⟨v,H2,e,rfl,k2⟩:=c193 (h:=h.new (.box [.ls (gs.map aT)])) hK pr ⟨aE _ _,by rw[ala];omega⟩ (by simp);have hv:(!([x].any fun x=>decide (x<0∨(gs.length:Int)<=x)))=decide (0<=x/\x<(gs.length:Int)):=by
  simp only[List.any_cons,List.any_nil,Bool.or_false];by_cases q:0<=x/\x<(gs.length:Int)
  ·rw[T_ q,d_];rfl
  ·rw[D_ q,t_];rfl
 simp only[List.map_cons,List.map_nil]at e;unfold ag1;simp only[go_sem,simprocAttr,hb,MN,e];rw[hv];exact⟨rfl,rfl,.inr rfl,[.bool (decide (0<=x/\x<(gs.length:Int)))],by simp only[go_sem,simprocAttr,afg],.bool (decide (0<=x/\x<(gs.length:Int))),_,aS (by intro l e;cases e) (aW _ _),rfl,(HK.new _ _).trans k2⟩
theorem c1058 (hK:aZ K)(m:Nat):cS K (m+1) (.fn 58 [] []) [pv] .no h=some (.ret (i_ 11),.no,h):=by
 obtain⟨v,h',e,rfl,rfl⟩:=bh (m:=m) (c:=[]) (a:=[pv]) (h:=h) (P:=fun v h'=>v=i_ 11/\h'=h) hK ajP (ae (GG 11 _) (aC _)) (by
  unfold ag0;simp only[go_sem,simprocAttr,MJ,ML,MM];exact⟨rfl,rfl,.inr rfl,[i_ 11],by simp only[go_sem,simprocAttr,aff],_,_,aS (by intro l e;cases e) (aG _ _ _),rfl,rfl⟩)
 exact e
theorem akm (hK:aZ K)(m a b c:Nat){x y z:AV}(ga:h.get a=some (.box [x]))(gb:h.get b=some (.box [y]))(gc:h.get c=some (.box [z]))(n1:a≠b)(n2:a≠c)(n3:b≠c):
  cS K (m+2) (.fn 57 [] [.ptr a 0 0,.ptr b 0 0,.ptr c 0 0]) [] (.pend pv) h=some (.ret (.tup []),.done,((h.set a (.box [.nl])).set b (.box [i_ 0])).set c (.box [i_ 11])):=by
 have r:Rn (cS K) 57:=mw hK;obtain⟨o,rc,h',e1,rfl,rfl,rfl⟩:=r (m+1) [.ptr a 0 0,.ptr b 0 0,.ptr c 0 0] _ _ (.pend pv) h _ _ _ _ (fun o rc h'=>o=.ret (.tup [])/\rc=.done/\h'=((h.set a (.box [.nl])).set b (.box [i_ 0])).set c (.box [i_ 11])) Zi (aC _) (by
  have e58:=fun h:AH=>c1058 (h:=h) hK m
  have hb1:∀ H:AH,bT H [.nl] []=.val (.agg [.nl]) H:=fun _=>rfl
  have gb1:(h.set a (.box [.nl])).get b=some (.box [y]):=(aB n1.symm).trans gb;have gc1:((h.set a (.box [.nl])).set b (.box [i_ 0])).get c=some (.box [z]):=(aB n3.symm).trans ((aB n2.symm).trans gc);unfold pv at e58 ⊢;unfold aa9;simp only[go_sem,simprocAttr,AS,e58,hb1,ga,gb1,gc1];exact jE (.inl rfl) rfl ⟨.tup [],_,bz (aC _),rfl,rfl,rfl⟩)
 exact e1
theorem akl (hK:aZ K)(m a b c:Nat):cS K (m+1) (.fn 57 [] [.ptr a 0 0,.ptr b 0 0,.ptr c 0 0]) [] .ret h=some (.ret (.tup []),.ret,h):=by
 have r:Rn (cS K) 57:=mw hK;obtain⟨o,rc,h',e1,rfl,rfl,rfl⟩:=r m [.ptr a 0 0,.ptr b 0 0,.ptr c 0 0] _ _ .ret h _ _ _ _ (fun o rc h'=>o=.ret (.tup [])/\rc=.ret/\h'=h) Zi (aC _) (by
  unfold aa9;simp only[go_sem,simprocAttr,AS];exact jE (.inl rfl) rfl ⟨.tup [],_,bz (aC _),rfl,rfl,rfl⟩)
 exact e1
end
section
variable {K:aQ}{E:AV}{h:AH}
structure S0 (B a kI kW kM kU kS:Nat)(E:AV)(h:AH):Prop where
 gA:h.get a=some (.box [.nl,E,.map kI,.nl,.map kW,.map kM,.map kU,.map kS,i_ 0,i_ 0])
 gI:h.get kI=some (.map [])
 gW:h.get kW=some (.map [])
 gM:h.get kM=some (.map [])
 nd:[a,kI,kW,kM].Nodup
 lo:B<=a/\B<=kI/\B<=kW/\B<=kM
 hi:a<h.z/\kI<h.z/\kW<h.z/\kM<h.z
def M1 (n:NV):Ms:=⟨[n],[ndT n []],[eD (ndT n [])],[],[],0,0⟩
theorem akk (hK:aZ K)(km:KM K)(m:Nat){B a kI kW kM kU kS:Nat}(s:S0 B a kI kW kM kU kS E h)(n:NV)(hk0:n.K=[])(ht:TOK (ndT n [])):
  ∃ v h',cS K (m+3) (.fn 96 [] []) [.ptr a 0 0,aT n] .no h=some (.ret v,.no,h')/\(∃ A gN gF,A.a=a/\St A B h'.z E (M1 n) gN gF h')/\h.z<=h'.z/\∀ k,k<B->h'.get k=h.get k:=by
 refine bh hK Zh (ae (bD _ _ _ _) (ae (jT _ _) (aC _))) ?_;simp only[A_];have hnok:NOK n:=by
  unfold ndT TOK at ht;exact⟨by rw[hk0];exact ht.1,fun c hc=>by rw[hk0]at hc;cases hc⟩
 have hkey:∀ h,cS K (m+2) (.fn 138 [] []) [aT n] .no h=some (.ret (.str (bs (cQ n))),.no,h):=fun h=>rV (ae (jT _ _) (aC _)) (km.key n hnok h) (aS (by intro l e;cases e) (gK _ _)) _
 obtain⟨x1,x2,x3,x4⟩:=s.hi;obtain⟨y1,y2,y3,y4⟩:=s.lo;have nd:=s.nd;simp only[List.nodup_cons,List.mem_cons,List.not_mem_nil,or_false,not_or,List.nodup_nil,and_true,not_false_eq_true]at nd;obtain⟨⟨n1,n2,n3⟩,⟨n4,n5⟩,n6⟩:=nd;obtain⟨H,hH⟩:∃ H:AH,H=h.new (.box [i_ n.kind,i_ n.idx,.str n.name,.ls (n.L.map ba),.ls (n.K.map AG.aO)]):=⟨_,rfl⟩
 have k0:HK h H:=by rw[hH];exact HK.new _ _
 have nx:H.z=h.z+1:=by rw[hH];exact ala _ _
 have gb:H.get h.z=some (.box [i_ n.kind,i_ n.idx,.str n.name,.ls (n.L.map ba),.ls (n.K.map AG.aO)]):=by rw[hH,aE]
 have gA:=(k0.kw _ x1).trans s.gA;have gI:=(k0.kw _ x2).trans s.gI;have gW:=(k0.kw _ x3).trans s.gW;have gM:=(k0.kw _ x4).trans s.gM;have hbx:∀ h:AH,dB h 5 (aT n)=.val (.ptr h.z 0 0) (h.new (.box (aT n).cells)):=fun h=>bN _ 5 rfl
 have hk:=fun z=>kY (kf:=kfS) (t:=2) AG.aO lD (L:=[]) gI (cQ n) z true
 have hk':∀ z,fm H 2 z true (.map kI) (.str (bs (cQ n)))=_:=hk
 have hmp:fK H 2 (.map kI) (.str (bs (cQ n))) (i_ 0)=_:=lU (kf:=kfS) (t:=2) AG.aO lD (L:=[]) gI (cQ n) 0;have i0:=hnok.nd.i0;have i1:=hnok.nd.i1;unfold aT at hkey hbx;unfold aa8;simp only[go_sem,Nat.reduceEqDiff,Nat.reduceAdd,aT,hbx,wj,wk];rw[<- hH];clear hH;simp only[go_sem,Nat.reduceEqDiff,reduceCtorEq,hkey,gA,hk',lkg,cond_true,wm];have d0:decide ((65536:Int)<=((0:Nat):Int))=false:=by decide
 have fin:∀ tm,nth tm 0=.ptr a 0 0->nth tm 3=.ptr h.z 0 0->nth tm 5=.str (bs (cQ n))->nth tm 8=i_ (if n.kind=0 then n.idx+1 else 0)->
   R (cS K (m+2)) 1000000000000 [.code sj] (IQ Cf fun v h2=>∃ v' h3,cG v h2=(v',h3)/\(∃ A gN gF,A.a=a/\St A B h3.z E (M1 n) gN gF h3)/\h.z<=h3.z/\∀ (k:Nat),k<B->h3.get k=h.get k) .normal ⟨tm,⟨[],.no,none,96⟩⟩ H:=by
  intro tm t0 t3 t5 t8;rw[hk0,List.map_nil]at gb;simp only[go_sem,sj,t3,gb];refine bB (fun j fr h'=>∃ tm,fr=⟨tm,⟨[],.no,none,96⟩⟩/\h'=H/\nth tm 0=.ptr a 0 0/\nth tm 3=.ptr h.z 0 0/\nth tm 5=.str (bs (cQ n))/\nth tm 8=i_ (if n.kind=0 then n.idx+1 else 0)/\nth tm 41=i_ ((0:Nat):Int)/\nth tm 42=i_ 0) 1 o_ ⟨_,rfl,rfl,by simp only[go_sem,reduceCtorEq,t0],by simp only[go_sem,Nat.reduceEqDiff,t3],by simp only[go_sem,Nat.reduceEqDiff,t5],by simp only[go_sem,Nat.reduceEqDiff,t8],by simp only[go_sem,Nat.reduceEqDiff],by simp only[go_sem]⟩ ?_;clear t0 t3 t5 t8 tm;rintro j fr H' ⟨tm,rfl,rfl,t0,t3,t5,t8,t41,t42⟩;have d1:decide ((0:Int)<((0:Nat):Int))=false:=by decide
  obtain⟨H1,hH1⟩:∃ H1:AH,H1=H'.set kI (.map (mpg kfS AG.aO (idx [n]))):=⟨_,rfl⟩
  have hmp:fK H' 2 (.map kI) (.str (bs (cQ n))) (i_ ((0:Nat):Int))=some H1:=hmp.trans (by rw[hH1];rfl);have q1:H1.z=H'.z:=by rw[hH1,alb]
  have gA1:=(show H1.get a=H'.get a by rw[hH1,aB n1]).trans gA;have gb1:=(show H1.get h.z=H'.get h.z by rw[hH1,aB o_]).trans gb;have gI1:H1.get kI=some (.map (mpg kfS AG.aO (idx [n]))):=by rw[hH1,aH]
  have gW1:=(show H1.get kW=H'.get kW by rw[hH1,aB (fun e=>n4 e.symm)]).trans gW;have gM1:=(show H1.get kM=H'.get kM by rw[hH1,aB (fun e=>n5 e.symm)]).trans gM;have low1:∀ k,k<B->H1.get k=h.get k:=fun k hk=>(show H1.get k=H'.get k by rw[hH1,aB o_]).trans (k0.kw k o_)
  clear hH1;obtain⟨V,H2,ea,o2,hn2,kp2,_,_,_,kN,gN,hV,hkN,_⟩:=dD (x:=aT n) (z:=[i_ 0,i_ 0,.str (bs []),.nl,.nl]) (bytes:=80) (fp H1.z 5 true H1) (e_ _) rfl rfl rfl rfl (by simp) (by decide);have hkN:=hkN rfl;subst hV;obtain⟨kk,gg,e1,e2,e3,e4⟩:=sD o2 (by simp);cases e1;subst hkN;unfold aT at ea;rw[hk0,List.map_nil]at ea;have gA2:=(kp2 a o_).trans gA1;obtain⟨H3,hH3⟩:∃ H3:AH,H3=H2.set a (.box [.row H1.z gN 5 0 1,E,.map kI,.nl,.map kW,.map kM,.map kU,.map kS,i_ 0,i_ 0]):=⟨_,rfl⟩
  have q3:H3.z=H2.z:=by rw[hH3,alb]
  have gA3:H3.get a=some (.box [.row H1.z gN 5 0 1,E,.map kI,.nl,.map kW,.map kM,.map kU,.map kS,i_ 0,i_ 0]):=by rw[hH3,aH]
  have o3:∀ k,k≠a->H3.get k=H2.get k:=fun k hk=>by rw[hH3,aB hk]
  obtain⟨V2,H4,eb,o4,hn4,kp4,_,_,_,kF,gF,hV2,hkF,_⟩:=dD (x:=AG.aO (eD (ndT n []))) (z:=[i_ 0]) (bytes:=8) (fp H3.z 1 false H3) (e_ _) rfl rfl rfl rfl (by simp) (by decide);have hkF:=hkF rfl;subst hV2;obtain⟨kk,gg,f1,f2,f3,f4⟩:=sD o4 (by simp);cases f1;subst hkF;have e8:AG.aO (eD (ndT n []))=i_ (if n.kind=0 then n.idx+1 else 0):=by unfold ndT eD fw;rfl
  rw[e8]at eb;have gA4:=(kp4 a o_).trans gA3;simp only[List.length_nil,z_]at ea eb;unfold By;simp only[go_sem,Nat.reduceEqDiff,Nat.reduceAdd,Nat.reduceMul,Nat.reduceLeDiff,reduceCtorEq,t41,t42,d1,AJ,AA,AB,AD,t0,t3,t5,gA,hmp,gA1,gb1,ea,gA2];rw[<- hH3];clear hH3;simp only[go_sem,Nat.reduceEqDiff,Nat.reduceAdd,Nat.reduceMul,Nat.reduceLeDiff,reduceCtorEq,AE,AI,t0,t8,gA3,eb,gA4];refine⟨rfl,rfl,.inr rfl,[i_ ((0:Nat):Int)],by simp only[go_sem,Cf],i_ ((0:Nat):Int),_,aS (by intro l e;cases e) (aG _ _ _),⟨⟨a,kI,H1.z,H3.z,kW,kM,kU,kS⟩,gN,gF,rfl,⟨⟨?_,?_⟩,?_,?_,?_,?_,?_,?_,e_ _⟩⟩,?_,?_⟩
  ·simp only[List.nodup_cons,List.mem_cons,List.not_mem_nil,or_false,not_or,List.nodup_nil,and_true,not_false_eq_true];omega
  ·simp only[List.mem_cons,List.not_mem_nil,or_false,alb];intro k hk;rcases hk with rfl|rfl|rfl|rfl|rfl|rfl<;>omega
  ·rw[aH];rfl
  ·show((H4.set a _).get kI)=_;rw[aB (fun e=>n1 e.symm),kp4 _ o_,o3 _ (fun e=>n1 e.symm),kp2 _ o_];exact gI1
  ·show((H4.set a _).get H1.z)=_;rw[aB o_,kp4 _ o_,o3 _ o_];exact e2
  ·show((H4.set a _).get H3.z)=_;rw[aB o_];exact f2
  ·show((H4.set a _).get kW)=_;rw[aB (fun e=>n2 e.symm),kp4 _ o_,o3 _ (fun e=>n2 e.symm),kp2 _ o_];exact gW1
  ·show((H4.set a _).get kM)=_;rw[aB (fun e=>n3 e.symm),kp4 _ o_,o3 _ (fun e=>n3 e.symm),kp2 _ o_];exact gM1
  ·rw[alb];omega
  ·intro k hk;rw[aB o_,kp4 _ o_,o3 _ o_,kp2 _ o_];exact low1 k hk
 simp only[go_sem,Nat.reduceEqDiff,d0,wo,Az,gb];refine aX (fun hk=>?_) (fun hk=>?_)
 ·have hw:IntKind.wrap .i64 (n.idx+1)=n.idx+1:=bI _ o_ o_;simp only[go_sem,Nat.reduceEqDiff,gb,hw];exact fin _ (by simp only[go_sem,reduceCtorEq]) (by simp only[go_sem,Nat.reduceEqDiff]) (by simp only[go_sem,Nat.reduceEqDiff]) (by simp only[go_sem,hk,if_true])
 ·simp only[go_sem];exact fin _ (by simp only[go_sem,reduceCtorEq]) (by simp only[go_sem,Nat.reduceEqDiff]) (by simp only[go_sem,Nat.reduceEqDiff]) (by simp only[go_sem,Nat.reduceEqDiff,hk,if_false])
end
def Mst (gs:List NV)(ts:List T):Ms:=⟨gs,ts,ts.map eD,[],[],0,0⟩
theorem At.take {ts:List T}{x:Int}{t:T}(h:At ts x t){p:Nat}(hp:x<p):At (ts.take p) x t:=by
 refine⟨h.1,?_⟩;have:=h.1;rw[List.getElem?_take,P_ o_];exact h.2
theorem Lk.takeT {ts:List T}{p:Nat}: ∀ {l:List Int} {m:List T},Lk ts l m->(∀ c∈l,c<(p:Int))->Lk (ts.take p) l m
 |[],[],_,_=>trivial
 |c::l,t::m,h,q=>⟨h.1.take (q c (by simp)),Lk.takeT h.2 fun x hx=>q x (by simp[hx])⟩
theorem Wg.take {gs:List NV}{ts:List T}(g:Wg (Mst gs ts))(p:Nat):Wg (Mst (gs.take p) (ts.take p)) where
 len:=by have:=g.len;show(ts.take p).length=(gs.take p).length;rw[List.length_take,List.length_take,show ts.length=gs.length from this]
 lenF:=by have:=g.len;show((ts.take p).map eD).length=(gs.take p).length;rw[L_,List.length_take,List.length_take,show ts.length=gs.length from this]
 most:=by have:=g.most;show(gs.take p).length<=65536;rw[List.length_take];have:gs.length<=65536:=this;omega
 node i n h:=by
  have h:(gs.take p)[i]?=some n:=h;rw[List.getElem?_take]at h;by_cases hi:i<p
  ·rw[P_ hi]at h;obtain⟨ks,a,b,c⟩:=g.node i n h;refine⟨ks,?_,Lk.takeT b fun x hx=>by have:=c x hx;omega,c⟩;show(ts.take p)[i]?=_;rw[List.getElem?_take,P_ hi];exact a
  ·rw[N_ hi]at h;cases h
 free i t h:=by
  have h:(ts.take p)[i]?=some t:=h;show((ts.take p).map eD)[i]?=_;rw[List.getElem?_map,h];rfl
 tok t h:=g.tok t (List.mem_of_mem_take h)
 nd:=g.nd.sublist (List.take_sublist p ts)
theorem Wg.notin {gs:List NV}{ts:List T}(g:Wg (Mst gs ts)){p:Nat}{n:NV}(h:gs[p]?=some n):n ∉ gs.take p:=by
 intro hm;obtain⟨i,hi⟩:=List.getElem?_of_mem hm;rw[List.getElem?_take]at hi;by_cases q:i<p
 ·rw[P_ q]at hi;obtain⟨k1,a1,b1,_⟩:=g.node i n hi;obtain⟨k2,a2,b2,_⟩:=g.node p n h;have:=b1.det b2;subst this;have hl:=(E_.1 a1).1;have:=(List.getElem?_inj hl g.nd).1 (a1.trans a2.symm);omega
 ·rw[N_ q]at hi;cases hi
theorem Ft {gs:List NV}{ts:List T}(_g:Wg (Mst gs ts)){p:Nat}{n:NV}{t:T}(h:gs[p]?=some n)(ht:ts[p]?=some t):
  Mst (gs.take (p+1)) (ts.take (p+1))={Mst (gs.take p) (ts.take p) with ns:=(Mst (gs.take p) (ts.take p)).ns++[n],ts:=(Mst (gs.take p) (ts.take p)).ts++[t],fr:=(Mst (gs.take p) (ts.take p)).fr++[eD t]}:=by
 unfold Mst;simp only;rw[List.take_add_one,List.take_add_one,h,ht];simp
section
variable {K:aQ}{E:AV}{h:AH}
def I1059 (E:AV)(gs:List NV)(ts:List T)(a:Nat)(h0 H0:AH)(j:Nat)(fr:AF)(h:AH):Prop:=∃ tm p,p+j=gs.length/\fr=⟨tm,⟨[],.no,none,59⟩⟩/\nth tm 5=.ptr a 0 0/\nth tm 17=.ls (gs.map aT)/\nth tm 18=i_ (gs.length:Int)/\nth tm 19=i_ (p:Int)/\
 ((p=0/\h=H0)∨(0<p/\HK h0 h/\∃ A B1 gN gF,A.a=a/\St A h0.z B1 E (Mst (gs.take p) (ts.take p)) gN gF h))
theorem c1059 (hK:aZ K)(km:KM K)(m:Nat){gs:List NV}{ts:List T}(g:Wg (Mst gs ts))(hne:0<gs.length)(hE:∀ h,cE E h=(E,h))(hE2:∀ H:AH,∀ k1 k2 k3 k4 k5:Nat,bT H [.nl,.nl,.nilm,.nl,.nilm,.nilm,.nilm,.nilm,i_ 0,i_ 0] [(1,1,E),(2,1,.map k1),(4,1,.map k2),(5,1,.map k3),(6,1,.map k4),(7,1,.map k5)]=.val (.agg [.nl,E,.map k1,.nl,.map k2,.map k3,.map k4,.map k5,i_ 0,i_ 0]) H):
  ∃ o h',cS K (m+4) (.fn 59 [] []) [E,.agg [.ls (gs.map aT)]] .no h=some (o,.no,h')/\HK h h'/\((∃ A B1 gN gF,o=.ret (.ptr A.a 0 0)/\St A h.z B1 E (Mst gs ts) gN gF h')∨o=.pan pv):=by
 have hr:Rn (cS K) 59:=mw hK;have hb:∀ H:AH,dB H 1 (.agg [.ls (gs.map aT)])=.val (.ptr H.z 0 0) (H.new (.box [.ls (gs.map aT)])):=fun H=>bN _ 1 rfl
 have hb2:∀ (H:AH) (k1 k2 k3 k4 k5:Nat),dB H 10 (.agg [.nl,E,.map k1,.nl,.map k2,.map k3,.map k4,.map k5,i_ 0,i_ 0])=.val (.ptr H.z 0 0) (H.new (.box [.nl,E,.map k1,.nl,.map k2,.map k3,.map k4,.map k5,i_ 0,i_ 0])):=fun H _ _ _ _ _=>bN _ 10 rfl
 have most:gs.length<=65536:=g.most;have key:=hr (m+3) [] _ _ .no h _ _ _ _ (fun o rc h'=>rc=.no/\HK h h'/\((∃ A B1 gN gF,o=.ret (.ptr A.a 0 0)/\St A h.z B1 E (Mst gs ts) gN gF h')∨o=.pan pv)) ajO (ae (hE h) (ae (iA gs h) (aC _))) (by
  simp only[A_];obtain⟨H,hH⟩:∃ H:AH,H=(((((((h.new (.box [.ls (gs.map aT)])).new (.map [])).new (.map [])).new (.map [])).new (.map [])).new (.map [])).new (.box [.nl,E,.map (h.z+1),.nl,.map (h.z+1+1),.map (h.z+1+1+1),.map (h.z+1+1+1+1),.map (h.z+1+1+1+1+1),i_ 0,i_ 0])):=⟨_,rfl⟩
  have k0:HK h H:=by rw[hH];exact((((((HK.new _ _).add _).add _).add _).add _).add _).add _
  have n0:H.z=h.z+7:=by rw[hH];simp only[ala]
  have g3:H.get h.z=some (.box [.ls (gs.map aT)]):=by
   rw[hH,aL (by simp only[ala];omega),aL (by simp only[ala];omega),aL (by simp only[ala];omega),aL (by simp only[ala];omega),aL (by simp only[ala];omega),aL (by simp only[ala];omega),aE]
  have gA:H.get (h.z+6)=some (.box [.nl,E,.map (h.z+1),.nl,.map (h.z+1+1),.map (h.z+1+1+1),.map (h.z+1+1+1+1),.map (h.z+1+1+1+1+1),i_ 0,i_ 0]):=by
   rw[hH];have:h.z+6=((((((h.new (.box [.ls (gs.map aT)])).new (.map [])).new (.map [])).new (.map [])).new (.map [])).new (.map [])).z:=by simp only[ala]
   rw[this,aE]
  have gI:H.get (h.z+1)=some (.map []):=by
   rw[hH,aL (by simp only[ala];omega),aL (by simp only[ala];omega),aL (by simp only[ala];omega),aL (by simp only[ala];omega),aL (by simp only[ala];omega)];have:h.z+1=(h.new (.box [.ls (gs.map aT)])).z:=by simp only[ala]
   rw[this,aE]
  have gW:H.get (h.z+1+1)=some (.map []):=by
   rw[hH,aL (by simp only[ala];omega),aL (by simp only[ala];omega),aL (by simp only[ala];omega),aL (by simp only[ala];omega)];have:h.z+1+1=((h.new (.box [.ls (gs.map aT)])).new (.map [])).z:=by simp only[ala]
   rw[this,aE]
  have gM:H.get (h.z+1+1+1)=some (.map []):=by
   rw[hH,aL (by simp only[ala];omega),aL (by simp only[ala];omega),aL (by simp only[ala];omega)];have:h.z+1+1+1=(((h.new (.box [.ls (gs.map aT)])).new (.map [])).new (.map [])).z:=by simp only[ala]
   rw[this,aE]
  have s0:S0 h.z (h.z+6) (h.z+1) (h.z+1+1) (h.z+1+1+1) (h.z+1+1+1+1) (h.z+1+1+1+1+1) E H:=
   ⟨gA,gI,gW,gM,by simp only[List.nodup_cons,List.mem_cons,List.not_mem_nil,or_false,not_or,List.nodup_nil,and_true,not_false_eq_true];omega,o_,o_⟩
  unfold agZ;simp only[go_sem,Nat.reduceEqDiff,reduceCtorEq,hb,ME,ala,hE2,hb2];rw[<- hH];clear hH;simp only[go_sem,Nat.reduceEqDiff,MF,g3,L_];refine bB (I1059 E gs ts (h.z+6) h H) gs.length o_ ⟨_,0,z_ _,rfl,by simp only[go_sem,Nat.reduceEqDiff],by simp only[go_sem,Nat.reduceEqDiff],by simp only[go_sem,Nat.reduceEqDiff],by simp only[go_sem];rfl,.inl ⟨rfl,rfl⟩⟩ ?_;rintro j fr H2 ⟨tm,p,hp,rfl,t5,t17,t18,t19,alt⟩;unfold Qk;simp only[go_sem,t18,t19,MH];refine aX (fun hlt=>?_) (fun hge=>?_)
  ·have hlt:p<gs.length:=o_;have hget:gs[p]?=some gs[p]:=a_ hlt;have ha:=fun h=>aK lj hget .i64 h
   have hw:=aP p o_;obtain⟨kts,ht,lk,lt⟩:=g.node p _ hget;have htk:=g.tok _ (m_ ht);revert hget ha lk lt ht htk;generalize gs[p]=n;intro hget ha ht lk lt htk;have hl5:∀ h:AH,cj (.vptr (aT n)) h true 5=some (aT n):=fun h=>cI rfl rfl h
   have hnv:aT n=.agg [i_ n.kind,i_ n.idx,.str n.name,.ls (n.L.map ba),.ls (n.K.map AG.aO)]:=rfl;obtain⟨H3,hH3⟩:∃ H3:AH,H3=(H2.new (.box [i_ 0,i_ 0,.str (bs []),.nl,.nl])).set H2.z (.box [i_ n.kind,i_ n.idx,.str n.name,.ls (n.L.map ba),.ls (n.K.map AG.aO)]):=⟨_,rfl⟩
   have k3:HK H2 H3:=by rw[hH3];exact HK.new_set _ _ _
   have g7:H3.get H2.z=some (.box [i_ n.kind,i_ n.idx,.str n.name,.ls (n.L.map ba),.ls (n.K.map AG.aO)]):=by rw[hH3,aH]
   simp only[go_sem,Nat.reduceEqDiff,Nat.reduceAdd,MI,t17,t19,ha,hnv];rw[<- hH3];clear hH3;simp only[go_sem,t5];rw[<- hnv];have hk_of:∀ x:Nat×Nat,True:=fun _=>trivial
   rcases alt with⟨rfl,rfl⟩|⟨hpos,hk2,A,B1,gN,gF,hA,st⟩
   ·have hk0:n.K=[]:=by
     cases hkk:n.K with
     |nil=>rfl
     |cons c l=>
      have h1:=lt c (by rw[hkk];simp);rw[hkk]at lk
      match kts,lk with
      |t::_,lk=>have:=lk.1.1;omega
    have hkts:kts=[]:=by
     rw[hk0]at lk;cases kts with
     |nil=>rfl
     |cons _ _=>exact lk.elim
    subst hkts;have s3:S0 h.z (h.z+6) (h.z+1) (h.z+1+1) (h.z+1+1+1) (h.z+1+1+1+1) (h.z+1+1+1+1+1) E H3:=by
     obtain⟨a1,a2,a3,a4,a5,a6,a7,a8,a9,a10⟩:=s0;exact⟨(k3.kw _ a7).trans a1,(k3.kw _ a8).trans a2,(k3.kw _ a9).trans a3,(k3.kw _ a10).trans a4,a5,a6,by have:=k3.z;omega⟩
    obtain⟨v,H4,e4,⟨A,gN,gF,hA,st⟩,hn4,hk4⟩:=akk hK km m s3 n hk0 htk;have hm1:Mst (gs.take (0+1)) (ts.take (0+1))=M1 n:=by
     rw[Ft g hget ht];rfl
    simp only[go_sem,Nat.reduceEqDiff,e4,t19,hw];refine⟨j-1,o_,_,1,o_,rfl,by simp only[go_sem,Nat.reduceEqDiff,t5],by simp only[go_sem,Nat.reduceEqDiff,t17],by simp only[go_sem,Nat.reduceEqDiff,t18],by simp only[go_sem],.inr ⟨o_,⟨by have:=k3.z;omega,fun k hk=>(hk4 k hk).trans ((k3.kw k o_).trans (k0.kw k hk))⟩,A,H4.z,gN,gF,hA,by rw[show Mst (gs.take 1) (ts.take 1)=M1 n from hm1];exact st⟩⟩
   ·have gp:=g.take p;have hlk:Lk (Mst (gs.take p) (ts.take p)).ts n.K kts:=Lk.takeT lk lt;obtain⟨o4,H4,e4,hm4,q4⟩:=Zt hK km m (st.hk k3) gp n kts hlk htk;rw[hA]at e4;have hk4:HK h H4:=⟨by have:=hm4.z;have:=k3.z;have:=hk2.z;omega,fun k hk=>(hm4.kw k (by have:=k3.z;have:=hk2.z;omega) (.inl hk)).trans ((k3.kw k (by have:=hk2.z;omega)).trans (hk2.kw k hk))⟩;rcases q4 with⟨v,rfl,M',gN',gF',st',g',le',sm',hM,r,rfl,ar⟩|rfl
    ·have hM:=hM (g.notin hget);rw[<- Ft g hget ht]at hM;subst hM;simp only[go_sem,Nat.reduceEqDiff,e4,t19,hw];exact⟨j-1,o_,_,p+1,o_,rfl,by simp only[go_sem,Nat.reduceEqDiff,t5],by simp only[go_sem,Nat.reduceEqDiff,t17],by simp only[go_sem,Nat.reduceEqDiff,t18],by simp only[go_sem],.inr ⟨o_,hk4,A,B1,gN',gF',hA,st'⟩⟩
    ·simp only[go_sem,e4];exact lP ⟨rfl,hk4,.inr rfl⟩
  ·have hpp:p=gs.length:=o_;subst hpp;rcases alt with⟨h0,_⟩|⟨hpos,hk2,A,B1,gN,gF,hA,st⟩
   ·omega
   ·rw[List.take_length,List.take_of_length_le (show ts.length<=gs.length from Nat.le_of_eq g.len)]at st;simp only[go_sem,Nat.reduceEqDiff,MG,t5];exact jE (.inr rfl) (vs:=[.ptr (h.z+6) 0 0]) (by simp only[go_sem,afe]) ⟨_,_,aS (by intro l e;cases e) (bD _ _ _ _),rfl,hk2,.inl ⟨A,B1,gN,gF,by rw[hA],st⟩⟩)
 obtain⟨o,rc,h',e,rfl,q⟩:=key;exact⟨o,h',e,q⟩
end
