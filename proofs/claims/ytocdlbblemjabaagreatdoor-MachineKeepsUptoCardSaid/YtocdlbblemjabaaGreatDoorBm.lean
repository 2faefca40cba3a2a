/- MachineKeeps: subst.Levels: a node, the whole term (no condition). -/
import Derived.Test.YtocdlbblemjabaaGreatDoorBl
namespace Go.Proofs.YtocdlbblemjabaaGreatDoor
open Go.AG Go.AG.MK
def mapG {α β:Type}(f:α->Option β):List α->Option (List β)
 |[]=>some []
 |x::l=>match f x with
  |none=>none
  |some y=>match mapG f l with
   |none=>none
   |some r=>some (y::r)
theorem tq {α β:Type}{f:α->Option β}: ∀ {l:List α} {r:List β} {x:α} {y:β},mapG f l=some r->f x=some y->mapG f (l++[x])=some (r++[y])
 |[],r,x,y,h,e=>by cases h;simp only[List.nil_append,mapG,e]
 |z::l,r,x,y,h,e=>by
  rw[mapG]at h;rw[List.cons_append,mapG];cases hz:f z with
  |none=>rw[hz]at h;cases h
  |some w=>
   rw[hz]at h;simp only at h ⊢;cases hl:mapG f l with
   |none=>rw[hl]at h;cases h
   |some q=>rw[hl]at h;cases h;rw[tq hl e];rfl
theorem tu {α β:Type}{f:α->Option β}: ∀ {l:List α} {x:α},x∈l->f x=none->mapG f l=none
 |z::l,x,h,e=>by
  rw[mapG];rcases List.mem_cons.1 h with rfl|h
  ·rw[e]
  ·cases hz:f z with
   |none=>rfl
   |some w=>simp only;rw[tu h e]
theorem EC {α β:Type}{f:α->Option β}: ∀ {l:List α} {r:List β},mapG f l=some r->r.length=l.length
 |[],r,h=>by cases h;rfl
 |z::l,r,h=>by
  rw[mapG]at h;cases hz:f z with
  |none=>rw[hz]at h;cases h
  |some w=>
   rw[hz]at h;simp only at h;cases hl:mapG f l with
   |none=>rw[hl]at h;cases h
   |some q=>rw[hl]at h;cases h;simp[EC hl]
mutual
def instT (ps:List LL):T->Option T
 |.mk k i nm ls ks=>match mapG (fun l=>nJ l ps) ls with
  |none=>none
  |some ls'=>match mT ps ks with
   |none=>none
   |some ks'=>some (.mk k i nm ls' ks')
def mT (ps:List LL):List T->Option (List T)
 |[]=>some []
 |t::l=>match instT ps t with
  |none=>none
  |some y=>match mT ps l with
   |none=>none
   |some r=>some (y::r)
end
theorem uR (ps:List LL):∀ l:List T,mT ps l=mapG (instT ps) l
 |[]=>by rw[mT,mapG]
 |t::l=>by
  rw[mT,mapG,uR ps l];cases instT ps t with
  |none=>rfl
  |some y=>cases mapG (instT ps) l<;>rfl
def Ts (o:dH):Prop:=∃ e:Int,e≠0/\o=.pan (.ifc 260 (i_ e))
section
variable {K:aQ}
theorem c128 (hK:aZ K)(m:Nat)(k j:Int)(h:AH):cS K (m+1) (.fn 219 [] []) [i_ k,i_ j] .no h=some (.ret (i_ (cq k j)),.no,h):=by
 obtain⟨v,h',e,rfl,rfl⟩:=bh (m:=m) (c:=[]) (a:=[i_ k,i_ j]) (h:=h) (P:=fun v h'=>v=i_ (cq k j)/\h'=h) hK cf128 (ae (aG _ _ _) (ae (aG _ _ _) (aC _))) (by
  simp only[A_];unfold b128
  repeat' (first|simp only[go_sem,simprocAttr, *,YE,YD]|refine mC (fun _=>?_) fun _=>?_|refine pI (fun _=>?_) fun _=>?_|refine pJ (fun _=>?_) fun _=>?_)
  all_goals (refine⟨by rfl,by rfl,.inr rfl,[_],by simp only[go_sem,simprocAttr,r128];rfl,_,_,aS (by intro l e;cases e) (aG _ _ _),?_,rfl⟩;simp_all [cq]))
 exact e
theorem Oy {r:Option LL}{v:AV}(h:Tg r v):∃ w e,v=.tup [ba w,i_ e]/\(e=0->r=some w)/\(e≠0->r=none):=by
 unfold Tg at h;cases r with
 |none=>obtain⟨e,he,rfl⟩:=h;exact⟨_,_,rfl,fun q=>absurd q he,fun _=>rfl⟩
 |some l=>exact⟨l,0,h,fun _=>rfl,fun q=>absurd rfl q⟩
theorem c327 (hK:aZ K)(ks:KS K)(m px:Nat){l:LL}(vl:VL l){ps:List LL}(vp:∀ l∈ps,VL l)(hl:ps.length<1000000){h:AH}(g:h.get px=some (.box [.ls (ps.map ba)]))(hpx:px<h.z):
  ∃ v h',cS K (m+11) (.fn 180 [] [.ptr px 0 0]) [ba l] .no h=some (.ret v,.no,h')/\Tg (nJ l ps) v/\HK h h':=by
 refine bh hK cf327 (ae (jz _ _) (aC _)) ?_;obtain⟨H,hH⟩:∃ H:AH,H=(h.new (.box [i_ l.c,.ls (l.vars.map bV)])).new (.box [i_ 0,.nl]):=⟨_,rfl⟩
 have n1:=ala h (.box [i_ l.c,.ls (l.vars.map bV)]);have k0:HK h H:=by rw[hH];exact(HK.new _ _).add _
 have g2:H.get h.z=some (.box [i_ l.c,.ls (l.vars.map bV)]):=by rw[hH,aL o_,aE]
 have g3:H.get (h.z+1)=some (.box [i_ 0,.nl]):=by rw[hH,<- n1,aE]
 have n0:H.z=h.z+2:=by rw[hH,ala,n1]
 have gx:=(k0.kw px hpx).trans g;obtain⟨v,H1,e1,ho,k1⟩:=c328 (h:=H) hK ks m vl vp hl;have g31:=(k1.kw _ o_).trans g3;obtain⟨w,e,rfl,_⟩:=Oy ho;have hw:ba w=.agg [i_ w.c,.ls (w.vars.map bV)]:=rfl;unfold b327;simp only[go_sem,simprocAttr,pB,n1];rw[<- hH];clear hH;rw[<- lp l]at e1;simp only[go_sem,simprocAttr,Xn,g2,gx,e1,hw,g31];refine⟨rfl,rfl,.inr rfl,[ba w,i_ e],?_,.tup [ba w,i_ e],_,bz (ae (jz _ _) (ae (aG _ _ _) (aC _))),ho,(k0.trans k1).set _ o_⟩;simp only[go_sem,simprocAttr,r327];rfl
structure adS (t:T)(b7:Nat)(V:AV)(h0 h:AH)(cur:List AV):Prop where
 g5:h.get (h0.z+1)=some (.box [i_ 0,i_ 0,.str (bs []),.nl,.nl])
 g7:h.get b7=some (.box [i_ t.kind,i_ t.idx,.str t.name,V,.nl])
 own:Own (h0.z+2) 2 true h V cur
 low:∀ a g n,V=.row a g 2 0 n->a<b7
 kw:HK h0 h
 nx:b7+1<=h.z
 lo:h0.z+2<=b7
theorem adS.up {t:T}{b7:Nat}{V:AV}{h0 h h':AH}{cur:List AV}(J:adS t b7 V h0 h cur)(k:HK h h'):adS t b7 V h0 h' cur:=by
 have:=J.nx;have:=J.lo;exact⟨(k.kw _ o_).trans J.g5,(k.kw _ o_).trans J.g7,cd J.own k.z (fun a _ q=>k.kw a q),J.low,J.kw.trans k,Nat.le_trans J.nx k.z,J.lo⟩
def I162 (ps:List LL)(t:T)(pr b7:Nat)(V:AV)(h0:AH)(j:Nat)(fr:AF)(h:AH):Prop:=∃ tm p cur us,p+j=t.L.length/\fr=⟨tm,⟨[],.no,none,202⟩⟩/\nth tm 2=.ptr pr 0 0/\nth tm 5=.ptr (h0.z+1) 0 0/\nth tm 7=.ptr b7 0 0/\nth tm 15=.ls (t.L.map ba)/\nth tm 16=i_ (t.L.length:Int)/\nth tm 17=i_ (p:Int)/\
 adS t b7 V h0 h cur/\cur.length=t.L.length/\cur.take p=us.map ba/\mapG (fun l=>nJ l ps) (t.L.take p)=some us
def adD (ps:List LL)(t:T)(o:dH):Prop:=match mapG (fun l=>nJ l ps) t.L with
 |none=>Ts o
 |some ls=>o=.ret (.tup [enc (.mk t.kind t.idx t.name ls []),.bool false])
theorem c162 (hK:aZ K)(ks:KS K)(m pr px:Nat)(t:T)(d:Int)(h:AH)(l1:t.L.length<=8)(l2:∀ l∈t.L,VL l){ps:List LL}(vp:∀ l∈ps,VL l)(hps:ps.length<1000000)
  (gr:h.get pr=some (.box [.fn 180 [] [.ptr px 0 0]])) (gx:h.get px=some (.box [.ls (ps.map ba)])) (lr:pr<h.z) (lx:px<h.z) :
  ∃ o h',cS K (m+12) (.fn 202 [] [.ptr pr 0 0]) [enc t,i_ d] .no h=some (o,.no,h')/\HK h h'/\adD ps t o:=by
 have hr:Rn (cS K) 202:=mw hK;have key:=hr (m+11) [.ptr pr 0 0] _ _ .no h _ _ _ _ (fun o rc h'=>rc=.no/\HK h h'/\adD ps t o) cf162 (ae (bR t _) (ae (aG .i64 d _) (aC _))) (by
  have J0:=Ub.init t h;obtain⟨H,hH⟩:∃ H:AH,H=((h.new (.box (aJ t))).new (.box [i_ 0,i_ 0,.str (bs []),.nl,.nl])):=⟨_,rfl⟩
  rw[<- hH]at J0;have n0:H.z=h.z+2:=by subst hH;simp only[ala]
  have b6:=J0.b6;have b10:=J0.b10;obtain⟨_,H1,e1,⟨V,out,rfl,o1,hol⟩,k1⟩:=c87r hK (m+10) t H l1 l2;have n1:=k1.z;obtain⟨H2,hH2⟩:∃ H2:AH,H2=(H1.new (.box [i_ 0,i_ 0,.str (bs []),.nl,.nl])).set H1.z (.box [i_ t.kind,i_ t.idx,.str t.name,V,.nl]):=⟨_,rfl⟩
  have k2:HK H1 H2:=by subst hH2;exact HK.new_set _ _ _
  have x2:H2.get H1.z=some (.box [i_ t.kind,i_ t.idx,.str t.name,V,.nl]):=by subst hH2;exact aH _ _ _
  have n2:H2.z=H1.z+1:=by subst hH2;simp only[alb,ala]
  have st2:dQ (.ptr H1.z 0 0) (H1.new (.box [i_ 0,i_ 0,.str (bs []),.nl,.nl])) 5 (.agg [i_ t.kind,i_ t.idx,.str t.name,V,.nl])=some H2:=by
   rw[gU (v:=.agg [i_ t.kind,i_ t.idx,.str t.name,V,.nl]) _ 0 0 5 rfl rfl,aE,hH2];rfl
  clear hH2;have J:adS t H1.z V h H2 out:=⟨((k1.trans k2).kw _ o_).trans b10,x2,cd (base:=h.z+2) (by
    refine⟨o1.1,?_⟩;rcases o1.2 with q|⟨kk,gg,z1,z2,z3,z4⟩
    ·exact .inl q
    ·exact .inr ⟨kk,gg,z1,z2,z3,o_⟩) k2.z (fun a _ q=>k2.kw a q),by
    intro a g n e;rcases o1.2 with⟨q,_⟩|⟨kk,gg,z1,z2,z3,z4⟩
    ·rw[q]at e;cases e
    ·rw[z1]at e;injection e with e;omega,(J0.kw.trans k1).trans k2,o_,o_⟩
  have b62:=((k1.trans k2).kw h.z o_).trans b6;unfold aJ at hH b6 b62;rw[aU t]at e1 ⊢;unfold b162;simp only[go_sem,simprocAttr];rw[<- hH];clear hH;simp only[go_sem,simprocAttr,Yl,ala,b6,e1,st2,Ym,b62];refine bB (I162 ps t pr H1.z V h) t.L.length o_ ⟨_,0,out,[],z_ _,rfl,k_,k_,k_,k_,k_,k_,J,hol,rfl,rfl⟩ ?_;clear J J0 b6 b10 b62 st2 x2 o1 hol e1;generalize H1.z=b7 at *;clear k1 k2 n1 n2 n0 H H1 H2;rintro j fr H ⟨tm,p,cur,us,hp,rfl,t2,t5,t7,t15,t16,t17,J,hcl,hct,hny⟩;have nx:=J.nx;have lo:=J.lo;have kn:=J.kw.z;have gr':=(J.kw.kw pr lr).trans gr;unfold ZE;simp only[go_sem,simprocAttr,Yo,t16,t17];refine aX (fun hlt=>?_) (fun hge=>?_)
  ·have hlt:p<t.L.length:=o_;obtain⟨l,hl⟩:∃ l,t.L[p]?=some l:=⟨_,a_ hlt⟩
   have hpl:=l2 l (m_ hl);have ia:=fun h=>aK eC hl .i64 h
   have ell:∀ l:LL,ba l=.agg [i_ l.c,.ls (l.vars.map bV)]:=fun _=>rfl
   have hw:=aP p o_;obtain⟨H1,hH1⟩:∃ H1:AH,H1=(H.new (.box [i_ 0,.nl])).set H.z (.box [i_ l.c,.ls (l.vars.map bV)]):=⟨_,rfl⟩
   have k1:HK H H1:=by subst hH1;exact HK.new_set _ _ _
   have x1:H1.get H.z=some (.box [i_ l.c,.ls (l.vars.map bV)]):=by subst hH1;exact aH _ _ _
   have st1:dQ (.ptr H.z 0 0) (H.new (.box [i_ 0,.nl])) 2 (ba l)=some H1:=by rw[ell,hH1];simp only[go_sem,simprocAttr]
   have n1:H1.z=H.z+1:=by subst hH1;simp only[alb,ala]
   clear hH1;have gr1:=(k1.kw pr o_).trans gr';obtain⟨v,H2,e2,ho,k2⟩:=c327 hK ks m px hpl vp hps (h:=H1) ((k1.kw px o_).trans ((J.kw.kw px lx).trans gx)) o_;obtain⟨w,e,rfl,q0,q1⟩:=Oy ho;have n2:=k2.z;obtain⟨H3,hH3⟩:∃ H3:AH,H3=(H2.new (.box [i_ 0,.nl])).set H2.z (.box [i_ w.c,.ls (w.vars.map bV)]):=⟨_,rfl⟩
   have k3:HK H2 H3:=by subst hH3;exact HK.new_set _ _ _
   have x3:H3.get H2.z=some (.box [i_ w.c,.ls (w.vars.map bV)]):=by subst hH3;exact aH _ _ _
   have st3:dQ (.ptr H2.z 0 0) (H2.new (.box [i_ 0,.nl])) 2 (ba w)=some H3:=by rw[ell,hH3];simp only[go_sem,simprocAttr]
   have n3:H3.z=H2.z+1:=by subst hH3;simp only[alb,ala]
   clear hH3;have k123:=(k1.trans k2).trans k3;have J3:=J.up k123;have g73:=J3.g7;rw[ell l]at e2;by_cases he:e=0
   ·subst he;have hsub:=q0 rfl;have d0:decide ((0:Int)=0)=true:=rfl;obtain⟨kk,g,rfl,r2,r3,r4⟩:∃ kk g,V=.row kk g 2 0 cur.length/\H3.get kk=some (.row g 2 true (flat cur) 0)/\kk<H3.z/\h.z+2<=kk:=by
     rcases J3.own.2 with⟨_,q⟩|q
     ·rw[q]at hcl;simp at hcl;omega
     ·exact q
    have hkb:=J3.low _ _ _ rfl;have ib:=fun H=>Rc (kk:=kk) (g:=g) (n:=cur.length) (a:=p) o_ H
    have st4:=Rb (x:=ba w) (a:=p) r2 J3.own.1 o_ (eC _) rfl;rw[ell w]at st4;simp only[go_sem,simprocAttr,HT,t2,t7,t15,t17,ia,st1,HU,gr1,x1,e2,st3,HV,g73,x3,ib,st4,hw];refine⟨j-1,o_,_,p+1,cur.set p (ba w),us++[w],o_,rfl,q_ t2,q_ t5,q_ t7,q_ t15,q_ t16,k_,⟨?_,?_,⟨UA J3.own.1 (eC _) rfl,.inr ⟨kk,g,by rw[List.length_set],aH _ _ _,by rw[alb];exact r3,r4⟩⟩,J3.low,?_,?_,lo⟩,by rw[List.length_set];exact hcl,?_,?_⟩
    ·rw[aB o_];exact J3.g5
    ·rw[aB o_];exact g73
    ·exact J3.kw.set _ o_
    ·rw[alb];exact J3.nx
    ·rw[Dx _ _ _ o_,hct,List.map_append];rfl
    ·rw[List.take_add_one,hl,Option.toList_some];exact tq hny hsub
   ·have he':decide (e=0)=false:=D_ he;have e88:=fun h=>c88 (cl:=cS K) (mw hK) (m+10) e h
    simp only[go_sem,simprocAttr,HT,t2,t15,t17,ia,st1,HU,gr1,x1,e2,st3,HV,he',e88];refine lP ⟨rfl,J3.kw,?_⟩;unfold adD;rw[tu (m_ hl) (q1 he)];exact⟨e,he,rfl⟩
  ·have:p=t.L.length:=o_;subst this;rw[List.take_length]at hny;rw[List.take_of_length_le o_]at hct;subst hct;have g7:=J.g7;have g5:=J.g5;have hVc:V.cells=[V]/\V.lies=true:=by
    rcases J.own.2 with⟨q,_⟩|⟨kk,g,q,_⟩<;>rw[q]<;>exact⟨rfl,rfl⟩
   simp only[go_sem,simprocAttr,Yn,t5,t7,g7,g5];have o:=cd (h':=H.set (h.z+1) (.box [i_ t.kind,i_ t.idx,.str t.name,V,.nl])) J.own (by rw[alb];exact e_ _) (fun a q _=>aB o_);obtain⟨H3,e3,n3,k3⟩:=ac9 (l:=[]) t.kind t.idx t.name o (fun a g n e=>by have:=J.low a g n e;exact this) (fp b7 _ _ _) o_;refine jE (.inr rfl) (vs:=[.agg [i_ t.kind,i_ t.idx,.str t.name,V,.nl],.bool false]) (by simp only[go_sem,simprocAttr,r162,t5]) ⟨_,_,bz (ae e3 (ae (aW _ _) (aC _))),rfl,⟨by rw[n3,alb];exact J.kw.z,fun a ha=>by rw[k3 a o_,aB o_];exact J.kw.kw a ha⟩,?_⟩;unfold adD;rw[hny])
 obtain⟨o,rc,h',e,rfl,q⟩:=key;exact⟨o,h',e,q⟩
end
theorem bP:∀ l:List T,l.length<=bO l
 |[]=>Nat.zero_le _
 |t::l=>by have:=bP l;have:=bZ t;simp only[bO,List.length_cons];omega
structure J90 (fv:AV)(t o:T)(b7:Nat)(V:AV)(h0 h:AH)(cur:List AV):Prop where
 g3:h.get h0.z=some (.box [fv])
 g4:h.get (h0.z+1)=some (.box (aJ t))
 g6:h.get (h0.z+1+1)=some (.box [i_ 0,i_ 0,.str (bs []),.nl,.nl])
 g7:h.get b7=some (.box [i_ o.kind,i_ o.idx,.str o.name,.ls (o.L.map ba),V])
 own:Own (b7+1) 5 true h V cur
 kw:HK h0 h
 nx:b7+1<=h.z
 lo:h0.z+3<=b7
theorem J90.up {fv:AV}{t o:T}{b7:Nat}{V:AV}{h0 h h':AH}{cur:List AV}(J:J90 fv t o b7 V h0 h cur)(k:HK h h'):J90 fv t o b7 V h0 h' cur:=by
 have:=J.nx;have:=J.lo;exact⟨(k.kw _ o_).trans J.g3,(k.kw _ o_).trans J.g4,(k.kw _ o_).trans J.g6,(k.kw _ o_).trans J.g7,cd J.own k.z (fun a q1 q2=>k.kw a q2),J.kw.trans k,Nat.le_trans J.nx k.z,J.lo⟩
theorem J90.put {fv:AV}{t o:T}{b7:Nat}{V:AV}{h0 h h':AH}{cur cur':List AV}(J:J90 fv t o b7 V h0 h cur)(hn:h'.z=h.z)(hk:∀ k,k<b7+1->h'.get k=h.get k)(ho:Own (b7+1) 5 true h' V cur'):J90 fv t o b7 V h0 h' cur':=by
 have:=J.nx;have:=J.lo;exact⟨(hk _ o_).trans J.g3,(hk _ o_).trans J.g4,(hk _ o_).trans J.g6,(hk _ o_).trans J.g7,ho,⟨by rw[hn];exact J.kw.z,fun k q1=>(hk k o_).trans (J.kw.kw k q1)⟩,by rw[hn];exact J.nx,J.lo⟩
theorem ada (F:Nat)(cap:List AV)(hc:AV.ald cap=cap)(h:AH):cE (.agg [.fn F [] cap]) h=(.agg [.fn F [] cap],h):=by
 simp[cE,py,cC,cP,AV.norm,AV.ald,hc]
def Tn (ps:List LL)(t:T)(o:dH):Prop:=match instT ps t with
 |none=>Ts o
 |some u=>o=.ret (enc u)
def I90 (ps:List LL)(fv:AV)(t o:T)(d:Int)(b7:Nat)(V:AV)(h0:AH)(j:Nat)(fr:AF)(h:AH):Prop:=∃ tm p cur out,p+j=t.K.length/\fr=⟨tm,⟨[],.no,none,205⟩⟩/\
 nth tm 2=i_ d/\nth tm 3=.ptr h0.z 0 0/\nth tm 4=.ptr (h0.z+1) 0 0/\nth tm 6=.ptr (h0.z+1+1) 0 0/\nth tm 7=.ptr b7 0 0/\nth tm 32=.ls (t.K.map enc)/\nth tm 33=i_ (t.K.length:Int)/\nth tm 34=i_ (p:Int)/\
 J90 fv t o b7 V h0 h cur/\cur.length=t.K.length/\cur.take p=out.map enc/\mapG (instT ps) (t.K.take p)=some out
section
variable {K:aQ}
theorem c90 (hK:aZ K)(ks:KS K){ps:List LL}(vp:∀ l∈ps,VL l)(hps:ps.length<1000000)(pr px:Nat):
  ∀ (n m:Nat) (t:T) (d:Int) (h:AH),n+20<=m->size t<=n->n<=100000->0<=d->d+n<=1000000->TOK t->h.get pr=some (.box [.fn 180 [] [.ptr px 0 0]])->h.get px=some (.box [.ls (ps.map ba)])->pr<h.z->px<h.z->
   ∃ o h',cS K m (.fn 205 [] []) [.agg [.fn 202 [] [.ptr pr 0 0]],enc t,i_ d] .no h=some (o,.no,h')/\HK h h'/\Tn ps t o:=by
 intro n;induction n with
 |zero=>intro m t d h _ hn;have:=bZ t;omega
 |succ n ih=>
  intro m t d h hm hn hn2 hd0 hd1 tok gr gx lr lx;obtain⟨m,rfl⟩:∃ k,m=k+1:=⟨m-1,o_⟩
  have hkl:bO t.K+1=size t/\t.K.length<=bO t.K:=by
   have:=bP t.K;cases t;simp only[T.K,size]at *;omega
  obtain⟨l1,l2,tk⟩:t.L.length<=8/\(∀ l∈t.L,VL l)/\∀ x∈t.K,TOK x:=by
   obtain⟨k,i,nm,ls,kss⟩:=t;rw[TOK]at tok;refine⟨?_,tok.1.val,ly.1 tok.2⟩;show ls.length<=8;obtain⟨a,b,c⟩:=tok.1.lev;by_cases q:k=2
   ·rw[a q];decide
   ·by_cases q3:k=3
    ·exact b q3
    ·rw[c q q3];simp
  have hcap:AV.ald [AV.ptr pr 0 0]=[.ptr pr 0 0]:=rfl;have hr:Rn (cS K) 205:=mw hK;have key:=hr m [] _ _ .no h _ _ _ _ (fun o rc h'=>rc=.no/\HK h h'/\Tn ps t o) cf90 (ae (ada 202 [.ptr pr 0 0] hcap _) (ae (bR t _) (ae (aG .i64 d _) (aC _)))) (by
   simp only[A_];obtain⟨H,hH⟩:∃ H:AH,H=((h.new (.box [.fn 202 [] [.ptr pr 0 0]])).new (.box (aJ t))).new (.box [i_ 0,i_ 0,.str (bs []),.nl,.nl]):=⟨_,rfl⟩
   have k0:HK h H:=by subst hH;exact((HK.new _ _).add _).add _
   have n0:H.z=h.z+3:=by subst hH;simp only[ala]
   have g3:H.get h.z=some (.box [.fn 202 [] [.ptr pr 0 0]]):=by subst hH;rw[aL (by simp only[ala];omega),aL (by simp only[ala];omega),aE]
   have g4:H.get (h.z+1)=some (.box (aJ t)):=by
    subst hH;rw[aL (by simp only[ala];omega),<- ala h (.box [.fn 202 [] [.ptr pr 0 0]]),aE]
   have g6:H.get (h.z+1+1)=some (.box [i_ 0,i_ 0,.str (bs []),.nl,.nl]):=by
    subst hH;have:h.z+1+1=((h.new (.box [.fn 202 [] [.ptr pr 0 0]])).new (.box (aJ t))).z:=by simp only[ala]
    rw[this,aE]
   obtain⟨ov,h2,e2,k2,hv⟩:=c162 hK ks (m-12) pr px t d H l1 l2 vp hps ((k0.kw _ lr).trans gr) ((k0.kw _ lx).trans gx) o_ o_;rw[show m-12+12=m by omega]at e2;have n2:=k2.z;have ebx:∀ h:AH,dB h 1 (.agg [.fn 202 [] [.ptr pr 0 0]])=.val (.ptr h.z 0 0) (h.new (.box [.fn 202 [] [.ptr pr 0 0]])):=fun h=>bN _ 1 rfl
   have kk2:=k0.trans k2;have fin:∀ (tm:Tm) (H4:AH) (cells:List AV) (r:T) (H5:AH),nth tm 6=.ptr (h.z+1+1) 0 0->H4.get (h.z+1+1)=some (.box cells)->cells.length=5->cE (.agg cells) H4=(enc r,H5)->HK h H5->Tn ps t (.ret (enc r))->
     XQ (cS K m) r90 (ru fun o rc h'=>rc=.no/\HK h h'/\Tn ps t o) .ret ⟨tm,⟨[],.no,none,205⟩⟩ H4:=by
    intro tm H4 cells r H5 t6 g hl hcan hk hb
    match cells,hl with
    |[c1,c2,c3,c4,c5],_=>
     exact jE (.inr rfl) (vs:=[.agg [c1,c2,c3,c4,c5]]) (by simp only[go_sem,simprocAttr,r90,t6,g]) ⟨_,_,aS (by intro l e;cases e) hcan,rfl,hk,hb⟩
   have hbo:∀ o,Tn ps t o=(match mapG (fun l=>nJ l ps) t.L with|none=>Ts o|some ls=>match mapG (instT ps) t.K with|none=>Ts o|some us=>o=.ret (enc (.mk t.kind t.idx t.name ls us))):=by
    intro o;obtain⟨k,i,nm,ls,kss⟩:=t;unfold Tn;rw[instT,uR];simp only[T.L,T.K,T.kind,T.idx,T.name];cases mapG (fun l=>nJ l ps) ls with
    |none=>rfl
    |some a=>cases mapG (instT ps) kss<;>rfl
   unfold aJ at hH g4;rw[aU t]at e2 ⊢;unfold b90;simp only[go_sem,simprocAttr,ebx];rw[<- hH];clear hH;unfold adD at hv;cases hs:mapG (fun l=>nJ l ps) t.L with
   |none=>
    rw[hs]at hv;obtain⟨e,he,rfl⟩:=hv;simp only[go_sem,simprocAttr,ZW,ala,g3,g4,e2];refine lP ⟨rfl,kk2,?_⟩;rw[hbo,hs];exact⟨e,he,rfl⟩
   |some ls=>
    rw[hs]at hv;simp only at hv;subst hv;obtain⟨o,ho⟩:∃ o:T,o=.mk t.kind t.idx t.name ls []:=⟨_,rfl⟩
    rw[<- ho]at e2;have hst:=du (h:=h2.new (.box [i_ 0,i_ 0,.str (bs []),.nl,.nl])) (k:=h2.z) (aE _ _) o;obtain⟨H3,hH3⟩:∃ H3:AH,H3=(h2.new (.box [i_ 0,i_ 0,.str (bs []),.nl,.nl])).set h2.z (.box (aJ o)):=⟨_,rfl⟩
    have k3:HK h2 H3:=by subst hH3;exact HK.new_set _ _ _
    have x3:H3.get h2.z=some (.box (aJ o)):=by subst hH3;exact aH _ _ _
    have n3:H3.z=h2.z+1:=by subst hH3;simp only[alb,ala]
    rw[<- hH3]at hst;clear hH3;have kk3:=kk2.trans k3;have g33:=(k3.kw h.z o_).trans ((k2.kw _ o_).trans g3);have g43:=(k3.kw (h.z+1) o_).trans ((k2.kw _ o_).trans g4);have g63:=(k3.kw (h.z+1+1) o_).trans ((k2.kw _ o_).trans g6);have x3':=x3;unfold aJ at x3';obtain⟨H4,hH4⟩:∃ H4:AH,H4=H3.set h2.z (.box [i_ o.kind,i_ o.idx,.str o.name,.ls (o.L.map ba),.nl]):=⟨_,rfl⟩
    have n4:H4.z=H3.z:=by subst hH4;exact alb _ _ _
    have o4:∀ a,a≠h2.z->H4.get a=H3.get a:=fun a q=>by subst hH4;exact aB q
    have x4:H4.get h2.z=some (.box [i_ o.kind,i_ o.idx,.str o.name,.ls (o.L.map ba),.nl]):=by subst hH4;exact aH _ _ _
    have g34:=(o4 h.z o_).trans g33;have g44:=(o4 (h.z+1) o_).trans g43;have g64:=(o4 (h.z+1+1) o_).trans g63;have kk4:HK h H4:=by subst hH4;exact kk3.set _ o_
    simp only[go_sem,simprocAttr,ZW,ala,g3,g4,e2,hst,adW,adX,x3'];rw[<- hH4];clear hH4;simp only[go_sem,simprocAttr,adY,g44];refine aX (fun hpos=>?_) (fun hz=>?_)
    ·obtain⟨V,H5,e5,o5,n5,k5,_,v51,v52⟩:=UP (base:=h2.z+1) (h:=H4) (z:=.agg [i_ 0,i_ 0,.str (bs []),.nl,.nl]) (sz:=5) (bytes:=80) t.K.length .i64 o_ rfl rfl o_ (by decide);have e5:fJ H4 true 5 80 [i_ 0,i_ 0,.str (bs []),.nl,.nl] (i_ (t.K.length:Int)) (i_ (t.K.length:Int))=some (V,H5):=e5;have m7:=(k5 h2.z o_).trans x4;have m4:=(k5 (h.z+1) o_).trans g44;have nne:¬ h.z+1=h2.z:=o_;simp only[go_sem,simprocAttr,g44,e5,m7,v51,v52,nne,m4];have J0:J90 (.fn 202 [] [.ptr pr 0 0]) t o h2.z V h (H5.set h2.z (.box [i_ o.kind,i_ o.idx,.str o.name,.ls (o.L.map ba),V])) (List.replicate t.K.length (.agg [i_ 0,i_ 0,.str (bs []),.nl,.nl])):=
      ⟨by rw[aB o_,k5 _ o_];exact g34,by rw[aB o_,k5 _ o_];exact g44,by rw[aB o_,k5 _ o_];exact g64,aH _ _ _,cd o5 (by rw[alb];exact e_ _) (fun a q _=>aB o_),⟨by rw[alb,n5];have:=kk4.z;omega,fun a q1=>by rw[aB o_,k5 a o_];exact kk4.kw a q1⟩,by rw[alb];omega,o_⟩
     refine bB (I90 ps (.fn 202 [] [.ptr pr 0 0]) t o d h2.z V h) t.K.length o_ ⟨_,0,_,[],z_ _,rfl,k_,k_,k_,k_,k_,k_,k_,k_,J0,by simp,by simp,rfl⟩ ?_;clear J0;rintro j fr H6 ⟨tm,p,cur,out,hpj,rfl,t2,t3,t4,t6,t7,t32,t33,t34,J,hcl,hct,hbq⟩;have lo:=J.lo;have nx:=J.nx;unfold afQ;simp only[go_sem,simprocAttr,adZ,t33,t34];refine aX (fun hlt=>?_) (fun hge=>?_)
     ·have hlt:p<t.K.length:=o_;have hget:t.K[p]?=some t.K[p]:=a_ hlt;have ha:=fun h=>aK bJ hget .i64 h
      have hss:=cL (m_ hget);have hgx:=tk _ (m_ hget);have hbb:=iZ t.kind p;revert hget ha hss hgx;generalize t.K[p]=x;intro hget ha hss hgx;have hw1:IntKind.wrap .i64 (d+cq t.kind p)=d+cq t.kind p:=bI _ o_ o_;have hw2:=aP p o_;have c128':=c128 hK (m-1) t.kind p;rw[show m-1+1=m by omega]at c128';have hst6:=du (h:=H6.new (.box [i_ 0,i_ 0,.str (bs []),.nl,.nl])) (k:=H6.z) (aE _ _) x;obtain⟨H7,hH7⟩:∃ H7:AH,H7=(H6.new (.box [i_ 0,i_ 0,.str (bs []),.nl,.nl])).set H6.z (.box (aJ x)):=⟨_,rfl⟩
      have k7:HK H6 H7:=by subst hH7;exact HK.new_set _ _ _
      have x7:H7.get H6.z=some (.box (aJ x)):=by subst hH7;exact aH _ _ _
      have n7:H7.z=H6.z+1:=by subst hH7;simp only[alb,ala]
      rw[<- hH7]at hst6;clear hH7;have J7:=J.up k7;have kp7:=J7.kw.z;obtain⟨o8,h8,e8,k8,hb8⟩:=ih m x (d+cq t.kind p) H7 o_ o_ o_ o_ o_ hgx ((J7.kw.kw _ lr).trans gr) ((J7.kw.kw _ lx).trans gx) o_ o_;have n8:=k8.z;have J8:=J7.up k8;have q3:=J7.g3;have q4:=J7.g4;have q7:=J7.g7;have q78:=J8.g7;unfold aJ at q4 x7;have bqV:AV.beq V V=true:=(kD J.own).1;have bqf:AV.beq (.agg [.fn 202 [] [.ptr pr 0 0]]) (.agg [.fn 202 [] [.ptr pr 0 0]])=true:=by simp[AV.beq,AV.beqs]
      have bqx:AV.beq (.agg [i_ x.kind,i_ x.idx,.str x.name,.ls (x.L.map ba),.ls (x.K.map enc)]) (.agg [i_ x.kind,i_ x.idx,.str x.name,.ls (x.L.map ba),.ls (x.K.map enc)])=true:=by rw[<- aU];exact Bx _
      rw[aU x]at e8;unfold Tn at hb8;cases hbx:instT ps x with
      |none=>
       rw[hbx]at hb8;obtain⟨e,he,rfl⟩:=hb8;simp only[go_sem,simprocAttr,t32,t34,ha,hst6,ZY,t2,t3,t4,t7,q3,q4,q7,x7,c128',hw1,e8,bqV,bqf,bqx];refine lP ⟨rfl,J8.kw,?_⟩;rw[hbo,hs];simp only;rw[tu (m_ hget) hbx];exact⟨e,he,rfl⟩
      |some r=>
       rw[hbx]at hb8;simp only at hb8;subst hb8;obtain⟨pp,h9,i9,st9,o9,n9,k9,_,_⟩:=FM (x:=enc r) (a:=p) J8.own o_ (bJ r) (hG r) (wC r) .i64;simp only[go_sem,simprocAttr,t32,t34,ha,hst6,ZY,t2,t3,t4,t7,q3,q4,q7,q78,x7,c128',hw1,e8,bqV,bqf,bqx,i9,st9,hw2];refine⟨j-1,o_,_,p+1,cur.set p (enc r),out++[r],o_,rfl,q_ t2,q_ t3,q_ t4,q_ t6,q_ t7,q_ t32,q_ t33,k_,J8.put n9 k9 o9,by rw[List.length_set];exact hcl,?_,?_⟩
       ·rw[Dx _ _ _ o_,hct,List.map_append];rfl
       ·rw[List.take_add_one,hget,Option.toList_some];exact tq hbq hbx
     ·have:p=t.K.length:=o_;subst this;rw[List.take_of_length_le o_]at hct;rw[List.take_length]at hbq;subst hct;have q7:=J.g7;have q6:=J.g6;have hVb:=kD J.own;simp only[go_sem,simprocAttr,ZX,t6,t7,q7,q6];obtain⟨H9,e9,n9,k9⟩:=aka o.kind o.idx o.name o.L (cd (h':=H6.set (h.z+1+1) (.box [i_ o.kind,i_ o.idx,.str o.name,.ls (o.L.map ba),V])) J.own (by rw[alb];exact e_ _) (fun a q _=>aB o_));refine fin _ _ _ (.mk o.kind o.idx o.name o.L out) H9 (q_ t6) (aH _ _ _) rfl e9 ⟨by rw[n9,alb];exact J.kw.z,fun a q1=>by rw[k9 a o_,aB o_];exact J.kw.kw a q1⟩ ?_;rw[hbo,hs];simp only;rw[hbq,ho];rfl
    ·have hk0:t.K=[]:=by
      cases hkk:t.K with
      |nil=>rfl
      |cons a l=>rw[hkk]at hz;exact absurd (show(0:Int)<(((a::l).length:Nat):Int) by simp only[List.length_cons];omega) hz
     simp only[go_sem,simprocAttr,ZX,x4,g64];refine fin _ _ _ (.mk o.kind o.idx o.name o.L []) _ k_ (aH _ _ _) rfl (aa0 (xK (vQ _) rfl) _) (kk4.set _ o_) ?_;rw[hbo,hs,hk0,ho];rfl)
  obtain⟨o,rc,h',e,rfl,k,hb⟩:=key;exact⟨o,h',e,k,hb⟩
theorem Zk (h:AH):cE (.agg [i_ 0,i_ 0,.str (bs []),.nl,.nl]) h=(enc (.mk 0 0 (bs []) [] []),h):=aa0 (xK (ls:=[]) (ks:=[]) rfl rfl) h
def adG (r:Option T)(v:AV):Prop:=match r with
 |none=>∃ e:Int,e≠0/\v=.tup [enc (.mk 0 0 (bs []) [] []),i_ e]
 |some u=>v=.tup [enc u,i_ 0]
theorem Ox {r:Option T}{v:AV}(h:adG r v):∃ w e,v=.tup [enc w,i_ e]/\(e=0->r=some w)/\(e≠0->r=none):=by
 unfold adG at h;cases r with
 |none=>obtain⟨e,he,rfl⟩:=h;exact⟨_,_,rfl,fun q=>absurd q he,fun _=>rfl⟩
 |some l=>exact⟨l,0,h,fun _=>rfl,fun q=>absurd rfl q⟩
theorem c113 (hK:aZ K)(ks:KS K){ps:List LL}(vp:∀ l∈ps,VL l)(hps:ps.length<1000000)(m px:Nat)(t:T)(h:AH)(hm:100020<=m)(h50:size t<=100000)(tok:TOK t)(gx:h.get px=some (.box [.ls (ps.map ba)]))(lx:px<h.z):
  ∃ v h',cS K (m+1) (.fn 179 [] []) [enc t,.fn 180 [] [.ptr px 0 0]] .no h=some (.ret v,.no,h')/\adG (instT ps t) v/\HK h h':=by
 have hr:Rn (cS K) 179:=mw hK;have can:∀ h,cE (.fn 180 [] [.ptr px 0 0]) h=(.fn 180 [] [.ptr px 0 0],h):=fun h=>by rw[iR];simp[AV.ald,AV.norm]
 have key:=hr m [] _ _ .no h _ _ _ _ (fun o rc h'=>rc=.no/\(∃ v,o=.ret v/\adG (instT ps t) v)/\HK h h') cf113 (ae (bR t _) (ae (can _) (aC _))) (by
  simp only[A_];obtain⟨m,rfl⟩:∃ m',m=m'+2:=⟨m-2,o_⟩
  obtain⟨H,hH⟩:∃ H:AH,H=(((h.new (.box (aJ t))).new (.box [.fn 180 [] [.ptr px 0 0]])).new (.box [i_ 0,i_ 0,.str (bs []),.nl,.nl])).new (.box [i_ 0]):=⟨_,rfl⟩
  have k0:HK h H:=by subst hH;exact(((HK.new _ _).add _).add _).add _
  have n0:H.z=h.z+4:=by subst hH;simp only[ala]
  have g2:H.get h.z=some (.box (aJ t)):=by subst hH;rw[aL (by simp only[ala];omega),aL (by simp only[ala];omega),aL (by simp only[ala];omega),aE]
  have g3:H.get (h.z+1)=some (.box [.fn 180 [] [.ptr px 0 0]]):=by
   subst hH;rw[aL (by simp only[ala];omega),aL (by simp only[ala];omega),<- ala h (.box (aJ t)),aE]
  have g4:H.get (h.z+1+1)=some (.box [i_ 0,i_ 0,.str (bs []),.nl,.nl]):=by
   subst hH;have:h.z+1+1=((h.new (.box (aJ t))).new (.box [.fn 180 [] [.ptr px 0 0]])).z:=by simp only[ala]
   rw[aL (by simp only[ala];omega),this,aE]
  have g5:H.get (h.z+1+1+1)=some (.box [i_ 0]):=by
   subst hH;have:h.z+1+1+1=(((h.new (.box (aJ t))).new (.box [.fn 180 [] [.ptr px 0 0]])).new (.box [i_ 0,i_ 0,.str (bs []),.nl,.nl])).z:=by simp only[ala]
   rw[this,aE]
  obtain⟨o,H2,e2,k2,hb2⟩:=c90 hK ks vp hps (h.z+1) px 100000 (m+2) t 0 H o_ h50 o_ (Int.le_refl 0) o_ tok g3 ((k0.kw px lx).trans gx) o_ o_;have n2:=k2.z;have g42:=(k2.kw (h.z+1+1) o_).trans g4;have g52:=(k2.kw (h.z+1+1+1) o_).trans g5;have k02:HK h H2:=k0.trans k2;have bf:∀ H:AH,dB H 1 (.fn 180 [] [.ptr px 0 0])=.val (.ptr H.z 0 0) (H.new (.box [.fn 180 [] [.ptr px 0 0]])):=fun H=>(rfl)
  have hbf:∀ H':AH,bT H' [.nilf] [(0,1,.fn 202 [] [.ptr (h.z+1) 0 0])]=.val (.agg [.fn 202 [] [.ptr (h.z+1) 0 0]]) H':=fun H'=>rfl
  have nne:¬ h.z+1+1+1=h.z+1+1:=o_;have nne2:¬ h.z+1+1=h.z+1+1+1:=o_;unfold aJ at hH g2;rw[aU t]at e2 ⊢;unfold b113;simp only[go_sem,simprocAttr,bf,ala];rw[<- hH];clear hH;unfold Tn at hb2;cases hE:instT ps t with
  |none=>
   rw[hE]at hb2;obtain⟨e,he,rfl⟩:=hb2;simp only[go_sem,simprocAttr,Ib,Ic,hbf,g2,e2];refine ZI (c161p (mw hK) (mw hK) m (h.z+1+1) (h.z+1+1+1) e 0 H2 ⟨_,_,_,_,_,g42⟩ g52 o_) (vs:=[.agg [i_ 0,i_ 0,.str (bs []),.nl,.nl],i_ e]) (by simp only[go_sem,simprocAttr,akW,nne2]) ⟨_,_,bz (ae (Zk _) (ae (aG _ _ _) (aC _))),rfl,⟨_,rfl,e,he,rfl⟩,(k02.set _ o_).set _ o_⟩
  |some u=>
   rw[hE]at hb2;simp only at hb2;subst hb2;have hs2:=du g42 u;simp only[go_sem,simprocAttr,Ib,Ic,hbf,g2,e2,hs2,g52,nne];refine ZJ (.inr rfl) (c161r (mw hK) (m+1) _ _ _) (vs:=[.agg (aJ u),i_ 0]) (by simp only[go_sem,simprocAttr,akW,nne2,aJ]) ⟨_,_,bz (ae (by rw[<- dF];exact bR _ _) (ae (aG _ _ _) (aC _))),rfl,⟨_,rfl,rfl⟩,(k02.set _ o_).set _ o_⟩)
 obtain⟨o,rc,h',e,rfl,⟨v,rfl,ho⟩,k⟩:=key;exact⟨v,h',e,ho,k⟩
theorem c316 (hK:aZ K)(ks:KS K){ps:List LL}(vp:∀ l∈ps,VL l)(hps:ps.length<1000000)(m:Nat)(t:T)(h:AH)(hm:100022<=m)(h50:size t<=100000)(tok:TOK t):
  ∃ v h',cS K (m+1) (.fn 143 [] []) [enc t,.ls (ps.map ba)] .no h=some (.ret v,.no,h')/\adG (instT ps t) v/\HK h h':=by
 obtain⟨m,rfl⟩:∃ m',m=m'+1:=⟨m-1,o_⟩
 refine bh hK cf316 (ae (bR _ _) (ae (pZ _ _) (aC _))) ?_;simp only[A_];obtain⟨H,hH⟩:∃ H:AH,H=((h.new (.box (aJ t))).new (.box [.ls (ps.map ba)])).new (.box [i_ 0,i_ 0,.str (bs []),.nl,.nl]):=⟨_,rfl⟩
 have k0:HK h H:=by subst hH;exact((HK.new _ _).add _).add _
 have n0:H.z=h.z+3:=by subst hH;simp only[ala]
 have g2:H.get h.z=some (.box (aJ t)):=by subst hH;rw[aL (by simp only[ala];omega),aL (by simp only[ala];omega),aE]
 have g3:H.get (h.z+1)=some (.box [.ls (ps.map ba)]):=by
  subst hH;rw[aL (by simp only[ala];omega),<- ala h (.box (aJ t)),aE]
 have g4:H.get (h.z+1+1)=some (.box [i_ 0,i_ 0,.str (bs []),.nl,.nl]):=by
  subst hH;have:h.z+1+1=((h.new (.box (aJ t))).new (.box [.ls (ps.map ba)])).z:=by simp only[ala]
  rw[this,aE]
 obtain⟨v,H2,e2,ho,k2⟩:=c113 hK ks vp hps m (h.z+1) t H o_ h50 tok g3 o_;obtain⟨w,e,rfl,_⟩:=Ox ho;have hst:=du ((k2.kw (h.z+1+1) o_).trans g4) w;have bl:∀ H:AH,dB H 1 (.ls (ps.map ba))=.val (.ptr H.z 0 0) (H.new (.box [.ls (ps.map ba)])):=fun H=>(rfl)
 unfold aJ at hH g2;rw[aU t]at e2 ⊢;unfold b316;simp only[go_sem,simprocAttr,bl,ala];rw[<- hH];clear hH;simp only[go_sem,simprocAttr,Xr,g2,e2,hst];exact⟨rfl,rfl,.inr rfl,[.agg (aJ w),i_ e],by simp only[go_sem,simprocAttr,r316,aJ],_,_,bz (ae (by rw[<- dF];exact bR _ _) (ae (aG _ _ _) (aC _))),ho,(k0.trans k2).set _ o_⟩
end
