/- MachineKeeps: guards: entering a term into a graph, by the reference: the result (no condition). -/
import Derived.Test.YtocdlbblemjabaaGreatDoorBq
namespace Go.Proofs.YtocdlbblemjabaaGreatDoor
open Go.AG Go.AG.MK
theorem zO (h:AH)(l:List NV)(hl:l.length<=100000):∃ y h',cU h 5 true [i_ 0,i_ 0,.str (bs []),.nl,.nl] 80 .nl (.ls (l.map aT))=some (y,h')/\HK h h'/\Own h.z 5 true h' y (l.map aT):=by
 have hall:∀ x∈l.map aT,x.cells.length=5/\x.isAgg=true:=fun x hx=>by obtain⟨n,_,rfl⟩:=List.mem_map.1 hx;exact⟨rfl,rfl⟩
 have e0:cU h 5 true [i_ 0,i_ 0,.str (bs []),.nl,.nl] 80 .nl (.ls (l.map aT))=List.casesOn (l.map aT) (pS .nl h) fun y ys=>jw .nl h 5 true 80 (y::ys):=by
  show aD (cond (ew 5 (l.map aT)) (some (l.map aT)) none) (fun xs=>cond (and (fy xs) (Nat.beq (len ([i_ 0,i_ 0,.str (bs []),.nl,.nl]:List AV)) 5)) _ _)=_;rw[oU lj];show cond (and (fy (l.map aT)) true) _ _=_;rw[vh (fun _=>rfl)];rfl
 cases l with
 |nil=>exact⟨.nl,h,e0,HK.refl _,fp _ _ _ _⟩
 |cons a l=>
  have hneed:need 0 ((a::l).map aT).length 80=true:=by
   show and (Nat.ble ((2*(0+((a::l).map aT).length)+1000)*80) 140737488355328) (Nat.ble (0+((a::l).map aT).length) 9223372036854775807)=true;simp only[L_]at *;rw[fh o_,fh o_];rfl
  refine⟨.row h.z 0 5 0 ((a::l).map aT).length,h.new (.row 0 5 true (flat ((a::l).map aT)) 0),?_,HK.new _ _,hall,.inr ⟨h.z,0,rfl,aE _ _,by rw[ala];omega,e_ _⟩⟩;rw[e0];show cond (need 0 (len ((a::l).map aT)) 80) (some (AV.row h.z 0 5 0 (len ((a::l).map aT)),h.new (.row 0 5 true (flat ((a::l).map aT)) 0))) none=_;rw[bH,hneed];rfl
theorem tc:∀ (a b:List AV) (h:AH),AV.ale a=true->cC (a++b) h=(a++(cC b h).1,(cC b h).2)
 |[],b,h,_=>rfl
 |v::l,b,h,hv=>by
  simp only[AV.ale,Bool.and_eq_true]at hv;simp only[List.cons_append,cC,dw hv.1,tc l b h hv.2]
theorem oz:∀ l:List NV,AV.ale (flat (l.map aT))=true
 |[]=>rfl
 |n::l=>by
  have:flat ((n::l).map aT)=(aT n).cells++flat (l.map aT):=rfl;rw[this,gZ];intro a ha;rcases List.mem_append.1 ha with q|q
  ·exact qv (eQ n) a q
  ·exact(gZ _).1 (oz l) a q
def VS (b:Nat)(H:AH)(V:AV)(dn:List Int):Prop:=(V=.nl/\dn=[])∨∃ kk g fz,V=.row kk g 1 0 dn.length/\H.get kk=some (.row g 1 false (flat (dn.map AG.aO)) fz)/\kk<H.z/\b<=kk
theorem VS.kw {b:Nat}{H H':AH}{V:AV}{dn:List Int}(v:VS b H V dn)(hn:H.z<=H'.z)(hk:∀ k,b<=k->k<H.z->H'.get k=H.get k):VS b H' V dn:=by
 rcases v with q|⟨kk,g,fz,a,c,d,e⟩
 ·exact .inl q
 ·exact .inr ⟨kk,g,fz,a,(hk kk e d).trans c,o_,e⟩
theorem SH {base:Nat}{H:AH}{V:AV}(k i:Int)(nm:ByteArray)(ls:List LL){dn:List Int}(o:Own base 1 false H V (dn.map AG.aO)):
  ∃ H',cE (.agg [i_ k,i_ i,.str nm,.ls (ls.map ba),V]) H=(aT ⟨k,i,nm,ls,dn⟩,H')/\H'.z=H.z/\(∀ j,j<base->H'.get j=H.get j)/\VS base H' V dn:=by
 have key:∀ x H',cP V H=(x,H')->x.norm=.ls (dn.map AG.aO)->cE (.agg [i_ k,i_ i,.str nm,.ls (ls.map ba),V]) H=(aT ⟨k,i,nm,ls,dn⟩,H'):=by
  intro x H' e hx;show((AV.agg (cC _ H).1).norm,(cC _ H).2)=_;have e3:cC [i_ k,i_ i,.str nm,.ls (ls.map ba),V] H=([i_ k,i_ i,.str nm,.ls (ls.map ba),x],H'):=by
   show(_::_::_::_::(cP V H).1 :: [],(cP V H).2)=_;rw[e];rfl
  rw[e3];simp[aT,AV.norm,AV.ald,bw fL,hx]
 rcases own_shut o (fun _=>rfl) with⟨rfl,e,e2⟩|⟨kk,g,e1,e2,e3,e4⟩
 ·rw[List.map_eq_nil_iff]at e;subst e;exact⟨H,key _ _ e2 rfl,rfl,fun _ _=>rfl,.inl ⟨rfl,rfl⟩⟩
 ·exact⟨_,key _ _ e2 (by simp only[AV.norm,bw fb]),alb _ _ _,fun j hj=>aB o_,.inr ⟨kk,g,_,by rw[e1,L_],aH _ _ _,by rw[alb];exact e4,e3⟩⟩
theorem ac5 (dn:List Int):chunk false 1 dn.length ((flat (dn.map AG.aO)).drop (0*1))=some (dn.map AG.aO):=by
 have q:=qw (sz:=1) (agg:=false) (fun _=>rfl) (jV dn);rw[L_]at q;rw[Nat.zero_mul,List.drop_zero];exact q
theorem Ws {base bL:Nat}{H:AH}{gs:List NV}{k i:Int}{nm:ByteArray}{ls:List LL}{dn:List Int}{V:AV}{kL gL:Nat}(r:Int)
  (o:VS base H V dn) (hL:H.get kL=some (.row gL 5 true (flat (gs.map aT++[.agg [i_ k,i_ i,.str nm,.ls (ls.map ba),V]])) 0)) (hlt:kL<H.z) (hb:bL<=kL) (hb2:bL<=base) (hne:∀ a g n,V=.row a g 1 0 n->a≠kL) :
  ∃ H',cG (.tup [.agg [.row kL gL 5 0 (gs.length+1)],i_ r]) (xh (.tup [.agg [.row kL gL 5 0 (gs.length+1)],i_ r]) H)=(.tup [.agg [.ls ((gs++[(⟨k,i,nm,ls,dn⟩:NV)]).map aT)],i_ r],H')/\H'.z=H.z/\∀ j,j<bL->H'.get j=H.get j:=by
 obtain⟨x,hx⟩:∃ x:AV,x=.agg [i_ k,i_ i,.str nm,.ls (ls.map ba),V]:=⟨_,rfl⟩
 have hfl:∀ y:AV,flat (gs.map aT++[.agg [i_ k,i_ i,.str nm,.ls (ls.map ba),y]])=flat (gs.map aT)++[i_ k,i_ i,.str nm,.ls (ls.map ba),y]:=by
  intro y;rw[fT];rfl
 have hdv:xh (.tup [.agg [.row kL gL 5 0 (gs.length+1)],i_ r]) H=lM (.row kL gL 5 0 (gs.length+1)) H:=rfl;have fin:∀ (H2:AH) (y:AV),H2.get kL=some (.row gL 5 true (flat (gs.map aT++[.agg [i_ k,i_ i,.str nm,.ls (ls.map ba),y]])) 0)->kL<H2.z->y.norm=.ls (dn.map AG.aO)->
   ∃ H',cG (.tup [.agg [.row kL gL 5 0 (gs.length+1)],i_ r]) H2=(.tup [.agg [.ls ((gs++[(⟨k,i,nm,ls,dn⟩:NV)]).map aT)],i_ r],H')/\H'.z=H2.z/\∀ j,j≠kL->H'.get j=H2.get j:=by
  intro H2 y g2 l2 hy;have o2:Own 0 5 true H2 (.row kL gL 5 0 (gs.length+1)) (gs.map aT++[.agg [i_ k,i_ i,.str nm,.ls (ls.map ba),y]]):=
   ⟨fun z hz=>by
    rcases List.mem_append.1 hz with q|q
    ·obtain⟨n,_,rfl⟩:=List.mem_map.1 q;exact⟨rfl,rfl⟩
    ·simp only[List.mem_singleton]at q;subst q;exact⟨rfl,rfl⟩,.inr ⟨kL,gL,by simp,g2,l2,Nat.zero_le _⟩⟩
  rcases own_shut o2 (fun e=>by cases e) with⟨e,_,_⟩|⟨k',g',e1,e2,_,_⟩
  ·cases e
  ·have hl:(gs.map aT++[AV.agg [i_ k,i_ i,.str nm,.ls (ls.map ba),y]]).length=gs.length+1:=by simp
   rw[hl]at e1;cases e1;have hca:cE (.agg [.row kL gL 5 0 (gs.length+1)]) H2=(.agg [.ls ((gs++[(⟨k,i,nm,ls,dn⟩:NV)]).map aT)],H2.set kL (.row gL 5 true (flat (gs.map aT++[.agg [i_ k,i_ i,.str nm,.ls (ls.map ba),y]])) ((gs.map aT++[AV.agg [i_ k,i_ i,.str nm,.ls (ls.map ba),y]]).length*5))):=by
    show((AV.agg (cC _ H2).1).norm,(cC _ H2).2)=_;have e5:cC [.row kL gL 5 0 (gs.length+1)] H2=([.ls (gs.map aT++[.agg [i_ k,i_ i,.str nm,.ls (ls.map ba),y]])],H2.set kL (.row gL 5 true (flat (gs.map aT++[.agg [i_ k,i_ i,.str nm,.ls (ls.map ba),y]])) ((gs.map aT++[AV.agg [i_ k,i_ i,.str nm,.ls (ls.map ba),y]]).length*5))):=by
     show((cP (.row kL gL 5 0 (gs.length+1)) H2).1 :: [],(cP (.row kL gL 5 0 (gs.length+1)) H2).2)=_;rw[e2]
    rw[e5];have hn:AV.ald (gs.map aT++[.agg [i_ k,i_ i,.str nm,.ls (ls.map ba),y]])=(gs++[(⟨k,i,nm,ls,dn⟩:NV)]).map aT:=by
     have:∀ (a:List NV) (z:AV),AV.ald (a.map aT++[z])=a.map aT++[z.norm]:=by
      intro a z;induction a with
      |nil=>simp[AV.ald]
      |cons n a ih=>simp only[List.map_cons,List.cons_append,AV.ald,ih,mj]
     rw[this,List.map_append];simp[AV.norm,AV.ald,bw fL,hy,aT]
    simp only[AV.norm,AV.ald,hn]
   exact⟨H2.set kL (.row gL 5 true (flat (gs.map aT++[.agg [i_ k,i_ i,.str nm,.ls (ls.map ba),y]])) ((gs.map aT++[AV.agg [i_ k,i_ i,.str nm,.ls (ls.map ba),y]]).length*5)),bz (ae hca (ae (aG _ _ _) (aC _))),alb _ _ _,fun j hj=>aB hj⟩
 rw[hdv];rcases o with⟨rfl,e⟩|⟨kk,g,fz,e1,e2,e4,e3⟩
 ·subst e;have hs:cC (flat (gs.map aT++[.agg [i_ k,i_ i,.str nm,.ls (ls.map ba),.nl]])) H=(flat (gs.map aT++[.agg [i_ k,i_ i,.str nm,.ls (ls.map ba),.nl]]),H):=by
   rw[hfl,tc _ _ _ (oz gs)];rfl
  have hd:lM (.row kL gL 5 0 (gs.length+1)) H=H.set kL (.row gL 5 true (flat (gs.map aT++[.agg [i_ k,i_ i,.str nm,.ls (ls.map ba),.nl]])) 0):=by
   simp only[lM,hL,hs]
  rw[hd];obtain⟨H',c1,c2,c3⟩:=fin _ .nl (aH _ _ _) (by rw[alb];exact hlt) rfl;exact⟨H',c1,by rw[c2,alb],fun j hj=>(c3 j o_).trans (aB o_)⟩
 ·have hkk:=hne _ _ _ e1;have e2:=UH (n:=dn.length) (off:=0) e2 (ac5 dn);rw[<- e1]at e2;obtain⟨H1,hH1⟩:∃ H1:AH,H1=H.set kk (.row g 1 false (flat (dn.map AG.aO)) (max fz ((0+dn.length)*1))):=⟨_,rfl⟩
  rw[<- hH1]at e2;have hs:cC (flat (gs.map aT++[.agg [i_ k,i_ i,.str nm,.ls (ls.map ba),V]])) H=(flat (gs.map aT++[.agg [i_ k,i_ i,.str nm,.ls (ls.map ba),.ls (dn.map AG.aO)]]),H1):=by
   rw[hfl,hfl,tc _ _ _ (oz gs)];have:cC [i_ k,i_ i,.str nm,.ls (ls.map ba),V] H=([i_ k,i_ i,.str nm,.ls (ls.map ba),.ls (dn.map AG.aO)],H1):=by
    show(_::_::_::_::(cP V H).1 :: [],(cP V H).2)=_;rw[e2];rfl
   rw[this]
  have hL1:H1.get kL=some (.row gL 5 true (flat (gs.map aT++[.agg [i_ k,i_ i,.str nm,.ls (ls.map ba),V]])) 0):=by rw[hH1,aB (Ne.symm hkk)];exact hL
  have hd:lM (.row kL gL 5 0 (gs.length+1)) H=H1.set kL (.row gL 5 true (flat (gs.map aT++[.agg [i_ k,i_ i,.str nm,.ls (ls.map ba),.ls (dn.map AG.aO)]])) 0):=by
   simp only[lM,hL,hs,hL1]
  rw[hd];obtain⟨H',c1,c2,c3⟩:=fin (H1.set kL _) (.ls (dn.map AG.aO)) (aH _ _ _) (by rw[alb,hH1,alb];exact hlt) (by simp only[AV.norm,bw fb]);exact⟨H',c1,by rw[c2,alb,hH1,alb],fun j hj=>(c3 j o_).trans ((aB o_).trans (by rw[hH1,aB o_]))⟩
section
variable {K:aQ}
structure aho (t:T)(b:Nat)(h0 h:AH)(gs:List NV)(V:AV)(dn:List Int):Prop where
 hk:HK h0 h
 nx:b+4<=h.z
 g2:h.get b=some (.box [.ls (gs.map aT)])
 g3:h.get (b+1)=some (.box (aJ t))
 g4:h.get (b+2)=some (.box [.nl])
 g6:h.get (b+3)=some (.box [i_ t.kind,i_ t.idx,.str t.name,.ls (t.L.map ba),V])
 own:Own (b+4) 1 false h V (dn.map AG.aO)
def I1092 (t:T)(b:Nat)(h0:AH)(gs0:List NV)(ts0:List T)(j:Nat)(fr:AF)(h:AH):Prop:=∃ tm p gs ts V dn,p+j=t.K.length/\fr=⟨tm,⟨[],.no,none,92⟩⟩/\aho t b h0 h gs V dn/\nth tm 2=.ptr b 0 0/\nth tm 3=.ptr (b+1) 0 0/\nth tm 4=.ptr (b+2) 0 0/\nth tm 6=.ptr (b+3) 0 0/\nth tm 7=i_ (p:Int)/\
 Wf gs ts/\(∀ x∈ts,BT x)/\(∃ l,gs=gs0++l)/\(∃ l,ts=ts0++l)/\Lk ts dn (t.K.take p)/\dn.length=p/\gs.length<=gs0.length+bO (t.K.take p)
def aiv (t:T)(gs:List NV)(ts:List T)(v:AV):Prop:=∃ gs' ts' r,v=.tup [.agg [.ls (gs'.map aT)],i_ r]/\Wf gs' ts'/\(∀ x∈ts',BT x)/\(∃ l,gs'=gs++l)/\(∃ l,ts'=ts++l)/\At ts' r t/\gs'.length<=gs.length+size t
theorem c1092 (hK:aZ K):∀ (n m:Nat) (t:T) (gs:List NV) (ts:List T) (h:AH),n+10<=m->size t<=n->TOK t->BT t->Wf gs ts->(∀ x∈ts,BT x)->gs.length+size t<=90000->
  ∃ v h',cS K m (.fn 92 [] []) [.agg [.ls (gs.map aT)],enc t] .no h=some (.ret v,.no,h')/\aiv t gs ts v/\HK h h':=by
 intro n;induction n with
 |zero=>intro m t gs ts h _ hs;have:=bZ t;omega
 |succ n ih=>
  intro m t gs ts h hm hs tok bt wf bts hn;obtain⟨m,rfl⟩:∃ k,m=k+1:=⟨m-1,o_⟩
  have hsk:=eA t;have hlk:=bP t.K;obtain⟨tk,hkl⟩:(∀ x∈t.K,TOK x)/\t.K.length<=3:=by
   obtain⟨k,i,nm,ls,kss⟩:=t;rw[TOK]at tok;refine⟨ly.1 tok.2,?_⟩;have hk:=tok.1.K;show kss.length<=3;unfold dW at hk;split at hk
   ·omega
   ·split at hk
    ·omega
    ·split at hk<;>omega
  refine ade hK ajx (ae (iA gs h) (ae (bR t h) (aC _))) ?_;have hb:∀ H:AH,dB H 1 (.agg [.ls (gs.map aT)])=.val (.ptr H.z 0 0) (H.new (.box [.ls (gs.map aT)])):=fun H=>bN _ 1 rfl
  obtain⟨H,hH⟩:∃ H:AH,H=((h.new (.box [.ls (gs.map aT)])).new (.box (aJ t))).new (.box [.nl]):=⟨_,rfl⟩
  have k0:HK h H:=by rw[hH];exact((HK.new _ _).add _).add _
  have n0:H.z=h.z+3:=by rw[hH];simp only[ala]
  have g2:H.get h.z=some (.box [.ls (gs.map aT)]):=by rw[hH,aL (by simp only[ala];omega),aL (by simp only[ala];omega),aE]
  have g3:H.get (h.z+1)=some (.box (aJ t)):=by
   rw[hH,aL (by simp only[ala];omega)];have:h.z+1=(h.new (.box [.ls (gs.map aT)])).z:=by simp only[ala]
   rw[this,aE]
  have g4:H.get (h.z+1+1)=some (.box [.nl]):=by
   rw[hH];have:h.z+1+1=((h.new (.box [.ls (gs.map aT)])).new (.box (aJ t))).z:=by simp only[ala]
   rw[this,aE]
  have gq:(H.new (.box [i_ 0,i_ 0,.str (bs []),.nl,.nl])).get (h.z+3)=some (.box [i_ 0,i_ 0,.str (bs []),.nl,.nl]):=by rw[<- n0,aE]
  obtain⟨H1,hH1⟩:∃ H1:AH,H1=(H.new (.box [i_ 0,i_ 0,.str (bs []),.nl,.nl])).set (h.z+3) (.box [i_ t.kind,i_ t.idx,.str t.name,.ls (t.L.map ba),.nl]):=⟨_,rfl⟩
  have J0:aho t h.z h H1 gs .nl []:=by
   rw[hH1];exact⟨(k0.add _).set _ o_,by rw[alb,ala];omega,by rw[aB o_,aL o_];exact g2,by rw[aB o_,aL o_];exact g3,by rw[aB o_,aL o_];exact g4,aH _ _ _,fp _ _ _ _⟩
  unfold aJ at hH g3;rw[aU t];have hs6:vE=vE:=rfl;unfold agI;simp only[go_sem,simprocAttr,hb,ala];rw[<- hH];simp only[go_sem,simprocAttr,Lj,g3,wR,n0,gq];rw[<- hH1];clear hH hH1;simp only[go_sem,simprocAttr,vE];refine bB (I1092 t h.z h gs ts) t.K.length o_ ⟨_,0,gs,ts,.nl,[],z_ _,rfl,J0,k_,k_,k_,k_,k_,wf,bts,⟨[],by simp⟩,⟨[],by simp⟩,trivial,rfl,by simp⟩ ?_;clear J0 g2 g3 g4 gq k0 n0 H H1;rintro j fr H2 ⟨tm,p,gs1,ts1,V,dn,hp,rfl,J,t2,t3,t4,t6,t7,wf1,bts1,⟨l1,hl1⟩,⟨l2,hl2⟩,lk,dl,hgl⟩;have q3:=J.g3;have q2:=J.g2;have q6:=J.g6;have nx:=J.nx;unfold aJ at q3;unfold PU;simp only[go_sem,simprocAttr,t3,t7,q3,L_];refine aX (fun hlt=>?_) (fun hge=>?_)
  ·have hlt:p<t.K.length:=o_;have hget:t.K[p]?=some t.K[p]:=a_ hlt;have ha:=fun h=>aK bJ hget .i64 h
   have ele:=dN t.K[p];have hsm:=cL (m_ hget);have hst:=ou hget;have tkx:=tk _ (m_ hget);have btx:=bt.kid _ (m_ hget);have hle:bO (t.K.take p)+size t.K[p]<=bO t.K:=by
    rw[<- hst];have e:∀ a b:List T,bO (a++b)=bO a+bO b:=by
     intro a b;induction a with
     |nil=>simp[bO]
     |cons x a ih=>simp only[List.cons_append,bO,ih];omega
    have:=congrArg bO (List.take_append_drop (p+1) t.K);rw[e]at this;omega
   have hw:=aP p o_;obtain⟨v,H3,e3,⟨gs2,ts2,r,rfl,wf2,bts2,⟨l3,hl3⟩,⟨l4,hl4⟩,ar,hgl2⟩,k3⟩:=ih m t.K[p] gs1 ts1 H2 o_ o_ tkx btx wf1 bts1 o_;have nx3:=k3.z;have q23:=(k3.kw _ o_).trans q2;have q63:=(k3.kw _ o_).trans q6;have o3:=cd J.own (h':=H3) k3.z (fun k q1 q2=>k3.kw k q2);obtain⟨H4,hH4⟩:∃ H4:AH,H4=H3.set h.z (.box [.ls (gs2.map aT)]):=⟨_,rfl⟩
   have o4:=cd o3 (h':=H4) (by rw[hH4,alb];exact e_ _) (fun k q1 q2=>by rw[hH4,aB o_]);have q64:H4.get (h.z+3)=some (.box [i_ t.kind,i_ t.idx,.str t.name,.ls (t.L.map ba),V]):=by rw[hH4,aB o_];exact q63
   have n4:H4.z=H3.z:=by rw[hH4,alb]
   obtain⟨V5,H5,ea,o5,nx5,kp5,_⟩:=dD (x:=AG.aO r) (z:=[i_ 0]) (bytes:=8) o4 o_ rfl rfl rfl rfl (by rw[L_];omega) (by decide);have ea:cU H4 1 false [i_ 0] 8 V (.clip [i_ r])=some (V5,H5):=ea;have q65:=(kp5 (h.z+3) o_).trans q64;have bq:=(kD o4).1;obtain⟨_,v51,v52⟩:=kD o5;have hcl:AV.cells (.agg [.ls (gs2.map aT)])=[.ls (gs2.map aT)]:=rfl;simp only[go_sem,simprocAttr,Lp,Lq,t2,t3,t6,t7,q2,q3,ha,ele,e3,q23];rw[<- hH4];simp only[go_sem,simprocAttr,t6,q64,dT,mP,ea,q65,v51,v52,t7,hw];have k35:∀ k,k<h.z+4->k≠h.z->H5.get k=H3.get k:=fun k a b=>(kp5 k o_).trans (by rw[hH4,aB b])
   refine⟨j-1,o_,_,p+1,gs2,ts2,V5,dn++[r],o_,rfl,⟨?_,?_,?_,?_,?_,aH _ _ _,?_⟩,q_ t2,q_ t3,q_ t4,q_ t6,k_,wf2,bts2,⟨l1++l3,by rw[hl3,hl1,List.append_assoc]⟩,⟨l2++l4,by rw[hl4,hl2,List.append_assoc]⟩,?_,by simp[dl],by rw[hst];omega⟩
   ·refine⟨by rw[alb];have:=J.hk.z;omega,fun k hk=>?_⟩;rw[aB o_,k35 k o_ o_,k3.kw k o_];exact J.hk.kw k hk
   ·rw[alb];omega
   ·rw[aB o_,kp5 _ o_,hH4,aH]
   ·rw[aB o_,k35 _ o_ o_,k3.kw _ o_];exact J.g3
   ·rw[aB o_,k35 _ o_ o_,k3.kw _ o_];exact J.g4
   ·rw[List.map_append];exact cd o5 (by rw[alb];exact e_ _) (fun k q1 q2=>aB o_)
   ·rw[List.take_add_one,hget,Option.toList_some,hl4];exact lk.app.snoc (by rw[<- hl4];exact ar)
  ·have hpp:p=t.K.length:=o_;subst hpp;rw[List.take_length]at lk hgl;obtain⟨H3,ec,n3,k3,vs3⟩:=SH t.kind t.idx t.name t.L J.own;obtain⟨nd,hnd⟩:∃ nd:NV,nd=⟨t.kind,t.idx,t.name,t.L,dn⟩:=⟨_,rfl⟩
   have hndT:ndT nd t.K=t:=by rw[hnd];cases t;rfl
   have bnd:BN nd:=by rw[hnd];exact⟨bt.ln,bt.ls,by show dn.length<10000000;omega⟩
   obtain⟨v,H4,e4,⟨e,rfl,he⟩,k4⟩:=c1136 (h:=H3) hK (m-4) gs1 nd o_ (wf1.bn bts1) bnd;rw[<- hnd]at ec;rw[<- jo (f:=136) (c:=[]) (ae (iA gs1 H2) (ae ec (aC _))) (ae (iA _ _) (ae (jT _ _) (aC _))),show m-4+4=m by omega]at e4;have nx4:=k4.z;have k24:∀ k,k<h.z+4->H4.get k=H2.get k:=fun k hk=>(k4.kw k o_).trans (k3 k hk)
   have q24:=(k24 h.z o_).trans J.g2;have q44:=(k24 (h.z+1+1) o_).trans J.g4;have q64:=(k24 (h.z+3) o_).trans J.g6;have hk4:HK h H4:=⟨by have:=J.hk.z;omega,fun k hk=>(k24 k o_).trans (J.hk.kw k hk)⟩;simp only[go_sem,simprocAttr,Ll,t2,t6,q2,q6,e4];rcases he with⟨hneg,hnot⟩|⟨hpos,hat⟩
   ·have d0:decide (e≥0)=false:=d_;simp only[go_sem,simprocAttr,d0,Lm,Ln,t2,q24];obtain⟨y,H5,e5,k5,o5⟩:=zO H4 gs1 o_;have q65:=(k5.kw _ o_).trans q64;have q25:=(k5.kw _ o_).trans q24;have q45:=(k5.kw _ o_).trans q44;have nx5:=k5.z;obtain⟨V6,H6,e6,o6,nx6,k6,_⟩:=dD (x:=.agg [i_ t.kind,i_ t.idx,.str t.name,.ls (t.L.map ba),V]) (z:=[i_ 0,i_ 0,.str (bs []),.nl,.nl]) (bytes:=80) o5 nx5 rfl rfl rfl rfl (by rw[L_];omega) (by decide);obtain⟨kL,gL,hV6,g6,l6,b6⟩:=sD o6 (by simp);have hV6:V6=.row kL gL 5 0 (gs1.length+1):=by rw[hV6];simp
    subst hV6;have q26:=(k6 h.z o_).trans q25;have q46:=(k6 (h.z+1+1) o_).trans q45;have bqN:AV.beq (.ls (gs1.map aT)) (.ls (gs1.map aT))=true:=bU (by simp only[AV.free];exact bE eQ gs1);have q27:(H6.set (h.z+2) (.box [.row kL gL 5 0 (gs1.length+1)])).get h.z=some (.box [.ls (gs1.map aT)]):=(aB o_).trans q26;have bqy:=(kD o5).1;have bqV:=(kD J.own).1;have hbd:∀ H:AH,bT H [.nl] [(0,1,.row kL gL 5 0 (gs1.length+1))]=.val (.agg [.row kL gL 5 0 (gs1.length+1)]) H:=fun _=>rfl
    have bqa:AV.beq (.clip [.agg [i_ t.kind,i_ t.idx,.str t.name,.ls (t.L.map ba),V]]) (.clip [.agg [i_ t.kind,i_ t.idx,.str t.name,.ls (t.L.map ba),V]])=true:=by
     have:=wS t.L;simp[AV.beq,AV.beqs,bqV];exact⟨by rw[db];exact T_ rfl,by simpa [AV.beq] using this⟩
    have bqb:AV.beq (.agg [i_ t.kind,i_ t.idx,.str t.name,.ls (t.L.map ba),V]) (.agg [i_ t.kind,i_ t.idx,.str t.name,.ls (t.L.map ba),V])=true:=by
     have:=wS t.L;simp[AV.beq,AV.beqs,bqV];exact⟨by rw[db];exact T_ rfl,by simpa [AV.beq] using this⟩
    have hlt:∀ (h:AH) (a b c d e:AV),fY true true 5 [i_ 0,i_ 0,.str (bs []),.nl,.nl] 1 [(0,5,.agg [a,b,c,d,e])] h=.val (.clip [.agg [a,b,c,d,e]]) h:=fun _ _ _ _ _ _=>rfl
    simp only[go_sem,simprocAttr,e5,Lo,t2,t4,t6,q65,hlt,e6,hbd,q26,q46,L_,q25,q27,bqN];have lo6:H4.z<=kL:=b6;obtain⟨H7,hH7⟩:∃ H7:AH,H7=H6.set (h.z+2) (.box [.row kL gL 5 0 (gs1.length+1)]):=⟨_,rfl⟩
    have r4:H7.get (h.z+2)=some (.box [.row kL gL 5 0 (gs1.length+1)]):=by rw[hH7,aH]
    have rL:H7.get kL=some (.row gL 5 true (flat (gs1.map aT++[.agg [i_ t.kind,i_ t.idx,.str t.name,.ls (t.L.map ba),V]])) 0):=by rw[hH7,aB o_];exact g6
    have k67:∀ k,h.z+4<=k->k<H3.z->H7.get k=H3.get k:=fun k a b=>by rw[hH7,aB o_,k6 k o_,k5.kw k o_,k4.kw k b]
    have vs7:VS (h.z+4) H7 V dn:=vs3.kw (by rw[hH7,alb];omega) k67;have lt7:kL<H7.z:=by rw[hH7,alb];exact l6
    have n7:H7.z=H6.z:=by rw[hH7,alb]
    have low7:∀ k,k<h.z->H7.get k=h.get k:=fun k hk=>by rw[hH7,aB o_,k6 k o_,k5.kw k o_];exact hk4.kw k hk
    rw[<- hH7];clear hH7;obtain⟨H8,ec8,n8,k8⟩:=Ws (gs:=gs1) (bL:=h.z+4) (gs1.length:Int) vs7 rL lt7 o_ (e_ _) (fun a g n ha=>by
     rcases vs3 with⟨q,_⟩|⟨kk,gg,fz,q,_,q3,_⟩
     ·rw[q]at ha;cases ha
     ·rw[q]at ha;cases ha;omega)
    have lkn:Lk ts1 nd.K t.K:=by rw[hnd];exact lk
    have wf2:=wf1.add (n:=nd) (ks:=t.K) lkn (by rw[hndT];exact tok) hnot;rw[hndT]at wf2;rw[<- hnd]at ec8;refine⟨rfl,rfl,.inr rfl,[.agg [.row kL gL 5 0 (gs1.length+1)],i_ (gs1.length:Int)],by simp only[go_sem,simprocAttr,aaC,t4,r4],_,_,ec8,⟨gs1++[nd],ts1++[t],(gs1.length:Int),rfl,wf2,?_,⟨l1++[nd],by rw[hl1,List.append_assoc]⟩,⟨l2++[t],by rw[hl2,List.append_assoc]⟩,At.of (by rw[<- wf1.len];simp),by simp;omega⟩,⟨o_,fun k hk=>(k8 k o_).trans (low7 k hk)⟩⟩;intro x hx;rcases List.mem_append.1 hx with q|q
    ·exact bts1 x q
    ·simp only[List.mem_singleton]at q;subst q;exact bt
   ·have d0:decide (e≥0)=true:=T_ hpos;simp only[go_sem,simprocAttr,d0,t2,q24,t4,q44];have hat2:At ts1 e t:=by
     obtain⟨ks2,a,b,_⟩:=wf1.node _ _ hat;rw[hnd]at b;have:=b.det lk;subst this;refine⟨hpos,?_⟩;rw[a,hndT]
    refine⟨rfl,rfl,.inr rfl,[.agg [.ls (gs1.map aT)],i_ e],by simp only[go_sem,simprocAttr,aaC,t4],.tup [.agg [.ls (gs1.map aT)],i_ e],_,bz (ae (iA _ _) (ae (aG _ _ _) (aC _))),⟨gs1,ts1,e,rfl,wf1,bts1,⟨l1,hl1⟩,⟨l2,hl2⟩,hat2,o_⟩,hk4.set _ o_⟩
end
theorem CK.tok {vars metas:Int}(hm:metas<=65536):∀ (n:Nat) (t:T) (d:Int),size t<=n->CK vars metas t d->vars+d+n<=65536->TOK t:=by
 intro n;induction n with
 |zero=>intro t d h;have:=bZ t;omega
 |succ n ih=>
  intro t d hs c hb;have hsk:=eA t;cases c with
  |mk _ _ f1 f2 f3 f4 f5 f6 f7=>
   obtain⟨a1,a2,a3,a4,a5,a6,a7⟩:=f1;obtain⟨k,i,nm,ls,kss⟩:=t;simp only[T.kind,T.idx,T.name,T.L,T.K]at *;rw[TOK];refine⟨⟨a1,a2,a3,?_,?_,a4,?_,?_,a5,⟨a6,fun _=>f3,a7⟩,f4⟩,ly.2 fun x hx=>?_⟩
   ·by_cases q:k=0
    ·exact(f5 q).1
    ·by_cases q2:k=12
     ·exact(f6 q2).1
     ·rw[a4 q q2];omega
   ·by_cases q:k=0
    ·have:=(f5 q).2;omega
    ·by_cases q2:k=12
     ·have:=(f6 q2).2;omega
     ·rw[a4 q q2];omega
   ·by_cases q:k=3
    ·exact(f2 q).1
    ·rw[a5 q];intro c hc;simp[bs]at hc
   ·by_cases q:k=3
    ·have:=(f2 q).2;omega
    ·rw[a5 q];decide
   ·obtain⟨a,ha⟩:=List.getElem?_of_mem hx;have hsm:=cL hx;have hbb:=iZ k a;exact ih x (d+cq k a) o_ (f7 a x ha) o_
theorem yi (a b:List T):bO (a++b)=bO a+bO b:=by
 induction a with
 |nil=>simp[bO]
 |cons x a ih=>simp only[List.cons_append,bO,ih];omega
theorem pq (l:List T)(p:Nat):bO (l.take p)<=bO l:=by
 have:=congrArg bO (List.take_append_drop p l);rw[yi]at this;omega
section
variable {K:aQ}{h:AH}
def I1089 (t:T)(q:Int)(b:Nat)(h0:AH)(j:Nat)(fr:AF)(h:AH):Prop:=∃ tm p x,p+j=t.K.length/\fr=⟨tm,⟨[],.no,none,89⟩⟩/\HK h0 h/\b<h.z/\h.get b=some (.box (aJ t))/\nth tm 1=i_ q/\nth tm 2=.ptr b 0 0/\nth tm 5=i_ x/\nth tm 6=i_ (p:Int)/\((size t:Int)<=q->x=((1+bO (t.K.take p):Nat):Int))
theorem c1089 (hK:aZ K)(q:Int):∀ (n m:Nat) (t:T) (h:AH),n<=m->size t<=n->n<=100000000->
  ∃ v h',cS K m (.fn 89 [] []) [enc t,i_ q] .no h=some (.ret v,.no,h')/\(∃ e:Int,v=i_ e/\((size t:Int)<=q->e=size t))/\HK h h':=by
 intro n;induction n with
 |zero=>intro m t h _ hs;have:=bZ t;omega
 |succ n ih=>
  intro m t h hm hs hn;obtain⟨m,rfl⟩:∃ k,m=k+1:=⟨m-1,o_⟩
  have hsk:=eA t;have hlk:=bP t.K;refine bh hK ajA (ae (bR t h) (ae (aG .i64 q h) (aC _))) ?_;obtain⟨H,hH⟩:∃ H:AH,H=h.new (.box (aJ t)):=⟨_,rfl⟩
  have k0:HK h H:=by rw[hH];exact HK.new _ _
  have n0:H.z=h.z+1:=by rw[hH,ala]
  have g0:H.get h.z=some (.box (aJ t)):=by rw[hH,aE]
  unfold aJ at hH;rw[aU t];unfold agL;simp only[go_sem,simprocAttr];rw[<- hH];clear hH;simp only[go_sem,simprocAttr,LA,LB];refine bB (I1089 t q h.z h) t.K.length o_ ⟨_,0,1,z_ _,rfl,k0,o_,g0,k_,k_,k_,k_,fun _=>by simp[bO]⟩ ?_;rintro j fr H2 ⟨tm,p,x,hp,rfl,hk2,hn2,hg2,t1,t2,t5,t6,hx⟩;have fin:∀ (tm:Tm),nth tm 5=i_ x->((size t:Int)<=q->x=size t)->R (cS K m) 1000000000000 [.code AL] (IQ aaF fun v h2=>∃ v' h3,cG v h2=(v',h3)/\(∃ e:Int,v'=i_ e/\((size t:Int)<=q->e=size t))/\HK h h3) .normal ⟨tm,⟨[],.no,none,89⟩⟩ H2:=by
   intro tm t5 he;simp only[go_sem,simprocAttr,AL,t5];exact⟨rfl,rfl,.inr rfl,[i_ x],by simp only[go_sem,simprocAttr,aaF],i_ x,_,aS (by intro l e;cases e) (aG _ _ _),⟨x,rfl,he⟩,hk2⟩
  unfold aJ at hg2;unfold PY;by_cases hlt:(p:Int)<(t.K.length:Int)
  ·have d1:decide ((p:Int)<(t.K.length:Int))=true:=T_ hlt;by_cases hxq:x<=q
   ·have d2:decide (x<=q)=true:=T_ hxq;have hlt:p<t.K.length:=o_;have hget:t.K[p]?=some t.K[p]:=a_ hlt;have ha:=fun h=>aK bJ hget .i64 h
    have ele:=dN t.K[p];have hsm:=cL (m_ hget);have hst:=ou hget;have hle:=pq t.K (p+1);obtain⟨v,H3,e3,⟨e,rfl,he⟩,k3⟩:=ih m t.K[p] H2 o_ o_ o_;have hw:=aP p o_;simp only[go_sem,simprocAttr,t1,t2,t5,t6,hg2,L_,d1,d2,LC,ha,ele,e3,hw];refine⟨j-1,o_,_,p+1,IntKind.wrap .i64 (x+e),o_,rfl,hk2.trans k3,by have:=k3.z;omega,(k3.kw _ hn2).trans hg2,q_ t1,q_ t2,k_,k_,fun hq=>?_⟩;have h1:=hx hq;have h2:=he o_;rw[h1,h2,bI _ o_ o_,hst];omega
   ·have d2:decide (x<=q)=false:=D_ hxq;simp only[go_sem,simprocAttr,t1,t2,t5,t6,hg2,L_,d1,d2];refine fin _ (q_ t5) fun hq=>?_
    have:=hx hq;have:=pq t.K p;omega
  ·have d1:decide ((p:Int)<(t.K.length:Int))=false:=D_ hlt;have hpp:p=t.K.length:=o_;simp only[go_sem,simprocAttr,t2,t6,hg2,L_,d1];refine fin _ (q_ t5) fun hq=>?_
   rw[hx hq,hpp,List.take_length,hsk]
def I1090 (t:T)(q:Int)(b:Nat)(h0:AH)(j:Nat)(fr:AF)(h:AH):Prop:=∃ tm p x,p+j=t.K.length/\fr=⟨tm,⟨[],.no,none,90⟩⟩/\HK h0 h/\b<h.z/\h.get b=some (.box (aJ t))/\nth tm 1=i_ q/\nth tm 2=.ptr b 0 0/\nth tm 5=i_ x/\nth tm 6=i_ (p:Int)/\0<=x/\x<=(bO t.K:Int)
theorem c1090 (hK:aZ K):∀ (n m:Nat) (q:Int) (t:T) (h:AH),n<=m->size t<=n->n<=100000000->-1<=q->q<=1000->
  ∃ v h',cS K m (.fn 90 [] []) [enc t,i_ q] .no h=some (.ret v,.no,h')/\(∃ e:Int,v=i_ e/\0<=e/\e<=size t)/\HK h h':=by
 intro n;induction n with
 |zero=>intro m q t h _ hs;have:=bZ t;omega
 |succ n ih=>
  intro m q t h hm hs hn hq0 hq1;obtain⟨m,rfl⟩:∃ k,m=k+1:=⟨m-1,o_⟩
  have hsk:=eA t;have hlk:=bP t.K;refine bh hK ajz (ae (bR t h) (ae (aG .i64 q h) (aC _))) ?_;obtain⟨H,hH⟩:∃ H:AH,H=h.new (.box (aJ t)):=⟨_,rfl⟩
  have k0:HK h H:=by rw[hH];exact HK.new _ _
  have n0:H.z=h.z+1:=by rw[hH,ala]
  have g0:H.get h.z=some (.box (aJ t)):=by rw[hH,aE]
  unfold aJ at hH;rw[aU t];unfold agK;simp only[go_sem,simprocAttr];rw[<- hH];clear hH;simp only[go_sem,simprocAttr,Lv];refine aX (fun hq=>?_) (fun hq=>?_)
  ·simp only[go_sem,simprocAttr];exact⟨rfl,rfl,.inr rfl,[i_ 0],by simp only[go_sem,simprocAttr,aaE],i_ 0,_,aS (by intro l e;cases e) (aG _ _ _),⟨0,rfl,o_,o_⟩,k0⟩
  ·simp only[go_sem,simprocAttr,Lw,Lx];refine bB (I1090 t q h.z h) t.K.length o_ ⟨_,0,0,z_ _,rfl,k0,o_,g0,k_,k_,k_,k_,o_,o_⟩ ?_;rintro j fr H2 ⟨tm,p,x,hp,rfl,hk2,hn2,hg2,t1,t2,t5,t6,hx0,hx1⟩;unfold aJ at hg2;unfold PX;simp only[go_sem,simprocAttr,t2,t6,hg2,L_];refine aX (fun hlt=>?_) (fun hge=>?_)
   ·have hlt:p<t.K.length:=o_;have hget:t.K[p]?=some t.K[p]:=a_ hlt;have ha:=fun h=>aK bJ hget .i64 h
    have ele:=dN t.K[p];have hsm:=cL (m_ hget);have hw2:IntKind.wrap .i64 (q-1)=q-1:=bI _ o_ o_;obtain⟨v,H3,e3,⟨e,rfl,he0,he1⟩,k3⟩:=ih m (q-1) t.K[p] H2 o_ o_ o_ o_ o_;have hw:=aP p o_;simp only[go_sem,simprocAttr,t1,t2,t5,t6,hg2,Lz,ha,ele,hw2,e3,hw];exact⟨j-1,o_,_,p+1,max x e,o_,rfl,hk2.trans k3,by have:=k3.z;omega,(k3.kw _ hn2).trans hg2,q_ t1,q_ t2,k_,k_,o_,o_⟩
   ·have hw3:IntKind.wrap .i64 (x+1)=x+1:=bI _ o_ o_;simp only[go_sem,simprocAttr,Ly,t5,hw3];exact⟨rfl,rfl,.inr rfl,[i_ (x+1)],by simp only[go_sem,simprocAttr,aaE],i_ (x+1),_,aS (by intro l e;cases e) (aG _ _ _),⟨x+1,rfl,o_,o_⟩,hk2⟩
end
