/- MachineKeeps: guards: lists of names (no condition). -/
import Derived.Test.YtocdlbblemjabaaGreatDoorBu
namespace Go.Proofs.YtocdlbblemjabaaGreatDoor
open Go.AG Go.AG.MK
theorem akc (l:List ByteArray)(h:AH):cE (.ls (l.map AV.str)) h=(.ls (l.map AV.str),h):=by
 rw[bG (show(AV.ls (l.map AV.str)).free=true by simp only[AV.free];exact bE (fun _=>rfl) l)];simp only[AV.norm,bw (f:=AV.str) (fun _=>rfl)]
def OwS (base:Nat)(h:AH)(V:AV)(l:List ByteArray):Prop:=(∃ a,V=.clip [.str a]/\l=[a])∨Own base 1 false h V (l.map AV.str)
theorem adp {sz bytes:Nat}{agg:Bool}{h:AH}{v x:AV}{z:List AV}(hz:z.length=sz)(hx:x.cells.length=sz)(hl:x.lies=true):cU h sz agg z bytes v (.clip [x])=jw v h sz agg bytes [x]:=by
 show aD (cond (and (Nat.beq (len x.cells) sz) true) (some [x]) none) (fun xs=>cond (and (fy xs) (Nat.beq (len z) sz)) _ _)=_;rw[bH,hx,eX];show cond (and (and x.lies true) (Nat.beq (len z) sz)) _ _=_;rw[hl,bH,hz,eX];rfl
theorem SU (h:AH)(a b:ByteArray):cU h 1 false [.str (bs [])] 16 (.clip [.str a]) (.clip [.str b])=some (.row h.z 0 1 0 2,h.new (.row 0 1 false [.str a,.str b] 0)):=by
 have e:∀ n m:Nat,n<=10->m<=10->need n m 16=true:=by
  intro n m h1 h2;show and (Nat.ble ((2*(n+m)+1000)*16) 140737488355328) (Nat.ble (n+m) 9223372036854775807)=true;rw[fh o_,fh o_];rfl
 have e1:∀ (es xs:List AV),jw (.clip es) h 1 false 16 xs=cond (and (need (len es) (len xs) 16) (and (ew 1 es) (fy es))) (some (.row h.z 0 1 0 (Nat.add (len es) (len xs)),h.new (.row 0 1 false (app (flat es) (flat xs)) 0))) none:=fun _ _=>rfl
 have l1:∀ x:ByteArray,len [AV.str x]=1:=fun x=>by rw[bH];rfl
 rw[adp (sz:=1) (x:=.str b) (z:=[.str (bs [])]) rfl rfl rfl,e1,l1,l1,e _ _ o_ o_];rfl
theorem OwS.app {base:Nat}{h:AH}{V:AV}{l:List ByteArray}(o:OwS base h V l)(hb:base<=h.z)(hl:l.length<100000)(s:ByteArray):
  ∃ V' h',cU h 1 false [.str (bs [])] 16 V (.clip [.str s])=some (V',h')/\OwS base h' V' (l++[s])/\h.z<=h'.z/\∀ k,k<base->h'.get k=h.get k:=by
 rcases o with⟨a,rfl,rfl⟩|o
 ·refine⟨_,_,SU h a s,.inr ⟨?_,.inr ⟨h.z,0,rfl,aE _ _,by rw[ala];omega,hb⟩⟩,by rw[ala];omega,fun k hk=>aL o_⟩;intro x hx;obtain⟨y,_,rfl⟩:=List.mem_map.1 hx;exact⟨rfl,rfl⟩
 ·obtain⟨V',H',e,o',n',k',_⟩:=dD (bytes:=16) (x:=.str s) (z:=[.str (bs [])]) o hb rfl rfl rfl rfl (by rw[L_];omega) (by decide);exact⟨V',H',e,.inr (by rw[List.map_append];exact o'),n',k'⟩
theorem OwS.can {base:Nat}{h:AH}{V:AV}{l:List ByteArray}(o:OwS base h V l):∃ h',cE V h=(.ls (l.map AV.str),h')/\h'.z=h.z/\∀ k,k<base->h'.get k=h.get k:=by
 rcases o with⟨a,rfl,rfl⟩|o
 ·exact⟨h,by rw[bG rfl];rfl,rfl,fun _ _=>rfl⟩
 ·exact wx (f:=AV.str) (fun _=>rfl) (fun _=>rfl) o
theorem pW (h:AH)(x:ByteArray):fY true false 1 [.str (bs [])] 1 [(0,1,.str x)] h=.val (.clip [.str x]) h:=(rfl)
section
variable {K:aQ}{h:AH}
def I1169 (l:List ByteArray)(s:ByteArray)(h0:AH)(j:Nat)(fr:AF)(h:AH):Prop:=∃ tm p,p+j=l.length/\fr=⟨tm,⟨[],.no,none,169⟩⟩/\HK h0 h/\nth tm 0=.ls (l.map AV.str)/\nth tm 1=.str s/\nth tm 5=i_ (p:Int)
theorem aa1 (hK:aZ K)(m:Nat)(l:List ByteArray)(s:ByteArray)(hl:l.length<=10000000):
  ∃ v h',cS K (m+1) (.fn 169 [] []) [.ls (l.map AV.str),.str s] .no h=some (.ret v,.no,h')/\(∃ b,v=.bool b)/\HK h h':=by
 refine bh hK ai2 (ae (akc _ _) (ae (gK _ _) (aC _))) ?_;have ret:∀ (tm:Tm) (b:Bool) (H:AH),HK h H->nth tm 4=.bool b->IQ aam (fun v h2=>∃ v' h3,cG v h2=(v',h3)/\(∃ b,v'=.bool b)/\HK h h3) .ret ⟨tm,⟨[],.no,none,169⟩⟩ H:=fun tm b H hk t2=>
  ⟨rfl,rfl,.inr rfl,[.bool b],by simp only[go_sem,simprocAttr,aam,t2],.bool b,_,aS (by intro l e;cases e) (aW _ _),⟨_,rfl⟩,hk⟩
 unfold agd;simp only[go_sem,simprocAttr,Jn];refine bB (I1169 l s h) l.length o_ ⟨_,0,z_ _,rfl,HK.refl h,k_,k_,k_⟩ ?_;rintro j fr H2 ⟨tm,p,hp,rfl,k2,t0,t1,t5⟩;unfold Pw;simp only[go_sem,simprocAttr,t0,t5,L_];refine aX (fun hlt=>?_) (fun hge=>?_)
 ·have hlt:p<l.length:=o_;have hget:l[p]?=some l[p]:=a_ hlt;have ha:=fun h=>aK (f:=AV.str) (sz:=1) (fun _=>rfl) hget .i64 h
  have hw:=aP p o_;simp only[go_sem,simprocAttr,Jp,t0,t1,t5,ha,eB,db];refine aX (fun _=>?_) (fun _=>?_)
  ·simp only[go_sem,simprocAttr];exact ret _ true H2 k2 k_
  ·simp only[go_sem,simprocAttr,t5,hw];exact⟨j-1,o_,_,p+1,o_,rfl,k2,q_ t0,q_ t1,k_⟩
 ·simp only[go_sem,simprocAttr,Jo];exact ret _ false H2 k2 k_
def NmB (d:DV)(l:List ByteArray):Prop:=∀ n,d.name.size<=n->(∀ c∈d.ctors,c.name.size<=n)->(∀ f∈d.funs,f.name.size<=n)->∀ s∈l,s.size<=n+4
theorem NmB.app {d:DV}{l:List ByteArray}(o:NmB d l){x:ByteArray}(h:∀ n,d.name.size<=n->(∀ c∈d.ctors,c.name.size<=n)->(∀ f∈d.funs,f.name.size<=n)->x.size<=n+4):NmB d (l++[x]):=fun n h1 h2 h3 s hs=>by
 rcases List.mem_append.1 hs with hs|hs
 ·exact o n h1 h2 h3 s hs
 ·rw[List.mem_singleton]at hs;subst hs;exact h n h1 h2 h3
theorem NmB.nil (d:DV):NmB d []:=fun _ _ _ _ _ hs=>by cases hs
theorem NmB.one (d:DV):NmB d [d.name]:=fun n h1 _ _ s hs=>by rw[List.mem_singleton]at hs;subst hs;omega
theorem UI (a:ByteArray):(Fv a).size=a.size+4:=by unfold Fv;rw[ByteArray.size_append];rfl
def YX (d:DV)(v:AV):Prop:=∃ l:List ByteArray,v=.ls (l.map AV.str)/\l.length<=2000/\(d.kind=3->2<=l.length)/\NmB d l
def ahr (d:DV)(b ix ov n:Nat)(h0:AH)(j:Nat)(fr:AF)(h:AH):Prop:=∃ tm p V l,p+j=n/\fr=⟨tm,⟨[],.no,none,168⟩⟩/\HK h0 h/\b<h.z/\h0.z<=b/\h.get b=some (.box (aM d))/\nth tm 1=.ptr b 0 0/\nth tm ix=i_ (p:Int)/\nth tm ov=V/\OwS (b+1) h V l/\l.length<=p+1/\(d.kind=3->1<=l.length)/\NmB d l
theorem TP (hK:aZ K)(m:Nat)(d:DV)(ds:DS d):
  ∃ v h',cS K (m+1) (.fn 168 [] []) [bW d] .no h=some (.ret v,.no,h')/\YX d v/\HK h h':=by
 refine bh hK ai3 (ae (mr d h) (aC _)) ?_;rw[cA];have hbx:=bN (h:=h) (aM d) 23 rfl;obtain⟨H,hH⟩:∃ H:AH,H=h.new (.box (aM d)):=⟨_,rfl⟩
 have k0:HK h H:=by rw[hH];exact HK.new _ _
 have n0:H.z=h.z+1:=by rw[hH,ala]
 have g0':H.get h.z=some (.box (aM d)):=by rw[hH,aE]
 have g0:=g0';unfold aM at g0;have cl:=ds.ctors;have fl:=ds.funs;have ret:∀ (tm:Tm) (V:AV) (l:List ByteArray) (H:AH),HK h H->nth tm 2=V->h.z+1<=H.z->OwS (h.z+1) H V l->l.length<=2000->(d.kind=3->2<=l.length)->NmB d l->IQ aan (fun v h2=>∃ v' h3,cG v h2=(v',h3)/\YX d v'/\HK h h3) .ret ⟨tm,⟨[],.no,none,168⟩⟩ H:=by
  intro tm V l H hk t2 hn o hl h3 h4;obtain⟨H2,e2,n2,k2⟩:=o.can;refine⟨rfl,rfl,.inr rfl,[V],by simp only[go_sem,simprocAttr,aan,t2],.ls (l.map AV.str),H2,?_,⟨l,rfl,hl,h3,h4⟩,⟨by have:=hk.z;omega,fun k hk2=>(k2 k o_).trans (hk.kw k hk2)⟩⟩;refine aS ?_ e2;rcases o with⟨a,rfl,_⟩|o
  ·intro l e;cases e
  ·rcases o.2 with⟨rfl,_⟩|⟨kk,g,rfl,_⟩<;>(intro l e;cases e)
 have ap:=fun(V:AV) (l:List ByteArray) (H:AH) (o:OwS (h.z+1) H V l) (hb:h.z+1<=H.z) (hl:l.length<100000) (s:ByteArray)=>o.app hb hl s
 have nil:∀ H,OwS (h.z+1) H .nl []:=fun H=>.inr (fp _ _ _ _)
 have hst:=Dz d.name ds.name;unfold age;simp only[go_sem,simprocAttr,hbx,<- hH,Jq,g0];by_cases q0:d.kind=0
 ·simp only[go_sem,simprocAttr,q0,g0,pW];exact ret _ (.clip [.str d.name]) [d.name] H k0 k_ o_ (.inl ⟨_,rfl,rfl⟩) (by simp) o_ (.one d)
 by_cases q1:d.kind=1
 ·simp only[go_sem,simprocAttr,q1,g0,pW];exact ret _ (.clip [.str d.name]) [d.name] H k0 k_ o_ (.inl ⟨_,rfl,rfl⟩) (by simp) o_ (.one d)
 by_cases q2:d.kind=2
 ·simp only[go_sem,simprocAttr,q2,g0,pW];exact ret _ (.clip [.str d.name]) [d.name] H k0 k_ o_ (.inl ⟨_,rfl,rfl⟩) (by simp) o_ (.one d)
 by_cases q3:d.kind=3
 ·have e0:decide (d.kind=0)=false:=D_ q0;have e1:decide (d.kind=1)=false:=D_ q1;have e2:decide (d.kind=2)=false:=D_ q2;have e3:decide (d.kind=3)=true:=T_ q3;simp only[go_sem,simprocAttr,e0,e1,e2,e3,g0,pW];refine bB (ahr d h.z 4 3 d.ctors.length h) d.ctors.length o_ ⟨_,0,.clip [.str d.name],[d.name],z_ _,rfl,k0,o_,e_ _,g0',k_,k_,k_,.inl ⟨_,rfl,rfl⟩,by simp,by simp,.one d⟩ ?_;clear k0 n0 g0 g0' hH H;rintro j fr H ⟨tm,p,V,l,hp,rfl,k0,n0,_,g0',t1,t4,t3,o,hl,hl3,hl4⟩;have g0:=g0';unfold aM at g0;unfold Pz;simp only[go_sem,simprocAttr,t1,t4,g0,L_];refine aX (fun hlt=>?_) (fun hge=>?_)
  ·have hlt:p<d.ctors.length:=o_;have hget:d.ctors[p]?=some d.ctors[p]:=a_ hlt;have ha:=fun h=>aK fN hget .i64 h
   have hf:∀ h,cp (.vptr (hT d.ctors[p])) h 0 1 false=.val (.vptr (.str d.ctors[p].name)) h:=fun h=>rfl
   have hw:=aP p o_;obtain⟨V',H3,e3,o3,n3,k3⟩:=ap V l H o o_ o_ d.ctors[p].name;simp only[go_sem,simprocAttr,Jt,t1,t3,t4,g0,ha,hf,eB,pW,e3,hw];exact⟨j-1,o_,_,p+1,V',_,o_,rfl,⟨by have:=k0.z;omega,fun k hk=>(k3 k o_).trans (k0.kw k hk)⟩,o_,e_ _,(k3 _ o_).trans g0',q_ t1,k_,k_,o3,by simp;omega,by simp,hl4.app fun n _ h2 _=>by have:=h2 _ (m_ hget);omega⟩
  ·obtain⟨V',H3,e3,o3,n3,k3⟩:=ap V l H o o_ o_ (Fv d.name);simp only[go_sem,simprocAttr,t1,t3,g0,hst,pW,e3];exact ret _ V' _ H3 ⟨by have:=k0.z;omega,fun k hk=>(k3 k o_).trans (k0.kw k hk)⟩ k_ o_ o3 (by simp;omega) (by simp;omega) (hl4.app fun n h1 _ _=>by rw[UI];omega)
 have e0:decide (d.kind=0)=false:=D_ q0;have e1:decide (d.kind=1)=false:=D_ q1;have e2:decide (d.kind=2)=false:=D_ q2;have e3:decide (d.kind=3)=false:=D_ q3;by_cases q4:d.kind=4
 ·have e4:decide (d.kind=4)=true:=T_ q4;simp only[go_sem,simprocAttr,e0,e1,e2,e3,e4];refine bB (ahr d h.z 6 5 d.funs.length h) d.funs.length o_ ⟨_,0,.nl,[],z_ _,rfl,k0,o_,e_ _,g0',k_,k_,k_,nil _,by simp,o_,.nil d⟩ ?_;clear k0 n0 g0 g0' hH H;rintro j fr H ⟨tm,p,V,l,hp,rfl,k0,n0,_,g0',t1,t6,t5,o,hl,hl3,hl4⟩;have g0:=g0';unfold aM at g0;unfold Py;simp only[go_sem,simprocAttr,t1,t6,g0,L_];refine aX (fun hlt=>?_) (fun hge=>?_)
  ·have hlt:p<d.funs.length:=o_;have hget:d.funs[p]?=some d.funs[p]:=a_ hlt;have ha:=fun h=>aK gj hget .i64 h
   have hf:∀ h,cp (.vptr (fQ d.funs[p])) h 0 1 false=.val (.vptr (.str d.funs[p].name)) h:=fun h=>rfl
   have hw:=aP p o_;obtain⟨V',H3,e3,o3,n3,k3⟩:=ap V l H o o_ o_ d.funs[p].name;simp only[go_sem,simprocAttr,Js,t1,t5,t6,g0,ha,hf,eB,pW,e3,hw];exact⟨j-1,o_,_,p+1,V',_,o_,rfl,⟨by have:=k0.z;omega,fun k hk=>(k3 k o_).trans (k0.kw k hk)⟩,o_,e_ _,(k3 _ o_).trans g0',q_ t1,k_,k_,o3,by simp;omega,o_,hl4.app fun n _ _ h3=>by have:=h3 _ (m_ hget);omega⟩
  ·simp only[go_sem,simprocAttr,t5];exact ret _ V _ H k0 k_ o_ o o_ o_ hl4
 ·have e4:decide (d.kind=4)=false:=D_ q4;simp only[go_sem,simprocAttr,e0,e1,e2,e3,e4,Jr];exact ret _ .nl [] H k0 k_ o_ (nil _) (by simp) o_ (.nil d)
end
section
variable {K:aQ}{h:AH}
def BC (d:DV)(a:Int)(v:AV):Prop:=∃ e:EV,v=rq e/\(e.kind=4->e.decl=a/\∃ j:Nat,j<d.ctors.length/\e.item=(j:Int))
structure aht (d:DV)(a:Int)(nm:ByteArray)(b:Nat)(h0:AH)(tm:Tm)(h:AH):Prop where
 hk:HK h0 h
 hn:b+2<h.z
 hb:h0.z=b
 g0:h.get b=some (.box (aM d))
 g1:∃ cs,h.get (b+1)=some (.box cs)/\cs.length=9
 g2:∃ k,h.get (b+1+1)=some (.box (bo ⟨k,a,0,d.params,d.type⟩))/\k≠4
 t1:nth tm 1=i_ a
 t2:nth tm 2=.str nm
 t3:nth tm 3=.ptr b 0 0
 t6:nth tm 6=.ptr (b+1) 0 0
 t7:nth tm 7=.ptr (b+1+1) 0 0
def ahq (d:DV)(a:Int)(nm:ByteArray)(b ix n:Nat)(h0:AH)(j:Nat)(fr:AF)(h:AH):Prop:=∃ tm p,p+j=n/\fr=⟨tm,⟨[],.no,none,185⟩⟩/\aht d a nm b h0 tm h/\nth tm ix=i_ (p:Int)
theorem iN {h:AH}{b:Nat}{cs:List AV}(g:h.get b=some (.box cs))(hl:cs.length=9)(e:EV):dQ (.ptr b 0 0) h 9 (rq e)=some (h.set b (.box (bo e))):=bp g hl rfl
theorem afE (hK:aZ K)(m:Nat)(d:DV)(a:Int)(nm:ByteArray)(ds:DS d):
  ∃ v h',cS K (m+1) (.fn 185 [] []) [bW d,i_ a,.str nm] .no h=some (.ret v,.no,h')/\BC d a v/\HK h h':=by
 refine bh hK aiX (ae (mr d h) (ae (aG _ _ _) (ae (gK _ _) (aC _)))) ?_;rw[cA];have hbx:=bN (h:=h) (aM d) 23 rfl;obtain⟨H,hH⟩:∃ H:AH,H=h.new (.box (aM d)):=⟨_,rfl⟩
 have k0:HK h H:=by rw[hH];exact HK.new _ _
 have n0:H.z=h.z+1:=by rw[hH,ala]
 have g0:H.get h.z=some (.box (aM d)):=by rw[hH,aE]
 obtain⟨HA,hHA⟩:∃ HA:AH,HA=H.new (.box zE):=⟨_,rfl⟩
 have nA:HA.z=h.z+1+1:=by rw[hHA,ala,n0]
 have kA:HK h HA:=by rw[hHA];exact k0.add _
 have gA0:HA.get h.z=some (.box (aM d)):=by rw[hHA,aL o_];exact g0
 have gA1:HA.get (h.z+1)=some (.box zE):=by rw[hHA,<- n0,aE]
 obtain⟨HB,hHB⟩:∃ HB:AH,HB=HA.new (.box zE):=⟨_,rfl⟩
 have nB:HB.z=h.z+1+1+1:=by rw[hHB,ala,nA]
 have kB:HK h HB:=by rw[hHB];exact kA.add _
 have gB0:HB.get h.z=some (.box (aM d)):=by rw[hHB,aL o_];exact gA0
 have gB1:HB.get (h.z+1)=some (.box zE):=by rw[hHB,aL o_];exact gA1
 have gB2:HB.get (h.z+1+1)=some (.box zE):=by rw[hHB,<- nA,aE]
 unfold zE at hHA hHB;have cl:=ds.ctors;have fl:=ds.funs;have ret:∀ (tm:Tm) (e:EV) (H:AH),HK h H->h.z+1<H.z->nth tm 6=.ptr (h.z+1) 0 0->H.get (h.z+1)=some (.box (bo e))->(e.kind=4->e.decl=a/\∃ j:Nat,j<d.ctors.length/\e.item=(j:Int))->IQ Hb (fun v h2=>∃ v' h3,cG v h2=(v',h3)/\BC d a v'/\HK h h3) .ret ⟨tm,⟨[],.no,none,185⟩⟩ H:=by
  intro tm e H hk hn t6 g hc;unfold bo at g;refine⟨rfl,rfl,.inr rfl,[rq e],by simp only[go_sem,simprocAttr,Hb,t6,g];rfl,rq e,H,aS (by intro l e;cases e) (zj e H),⟨e,rfl,hc⟩,hk⟩
 have hset:∀ (H:AH) (c:List AV),HK h H->HK h (H.set (h.z+1) (.box c)):=fun H c k=>k.set _ o_
 have fin:∀ (tm:Tm) (H:AH),aht d a nm h.z h tm H->R (cS K m) 1000000000000 [.code vu] (IQ Hb (fun v h2=>∃ v' h3,cG v h2=(v',h3)/\BC d a v'/\HK h h3)) .normal ⟨tm,⟨[],.no,none,185⟩⟩ H:=by
  rintro tm H ⟨hk,hn,_,b0,⟨cs,b1,hcs⟩,⟨k,b2,hk4⟩,t1,t2,t3,t6,t7⟩;have hld:=fk b2 (sz:=9) rfl;have hst:=iN b1 hcs ⟨k,a,0,d.params,d.type⟩;rw[fM]at hst;simp only[go_sem,simprocAttr,vu,t7,t6,hld,hst];exact ret _ ⟨k,a,0,d.params,d.type⟩ _ (hset _ _ hk) (by rw[alb];omega) (q_ t6) (aH _ _ _) (fun q=>absurd q hk4)
 have hd:=gA0;unfold aM at hd;have hz:=iN (h:=HB) gB2 rfl ⟨0,a,0,d.params,d.type⟩;rw[fM]at hz;unfold bo at hz;have hz2:=hz;obtain⟨HC,hHC⟩:∃ HC:AH,HC=HB.set (h.z+1+1) (.box (bo ⟨0,a,0,d.params,d.type⟩)):=⟨_,rfl⟩
 have kC:HK h HC:=by rw[hHC];exact kB.set _ o_
 have nC:HC.z=h.z+3:=by rw[hHC,alb,nB]
 have gC0':HC.get h.z=some (.box (aM d)):=by rw[hHC,aB o_];exact gB0
 have gC1:HC.get (h.z+1)=some (.box zE):=by rw[hHC,aB o_];exact gB1
 have gC2':HC.get (h.z+1+1)=some (.box (bo ⟨0,a,0,d.params,d.type⟩)):=by rw[hHC,aH]
 unfold bo at hHC;have gC0:=gC0';have gC2:=gC2';unfold aM at gC0;unfold bo at gC2;unfold af9;simp only[go_sem,simprocAttr,hbx,<- hH,IX,n0,<- hHA,hd,Fk,nA,<- hHB,hz,<- hHC,IY,gC0];clear hH hHA hHB hHC hz hz2;have st:∀ k:Int,k≠4->∀ H,H=HC.set (h.z+1+1) (.box (bo ⟨k,a,0,d.params,d.type⟩))->HK h H/\h.z+2<H.z/\H.get h.z=some (.box (aM d))/\H.get (h.z+1)=some (.box zE)/\H.get (h.z+1+1)=some (.box (bo ⟨k,a,0,d.params,d.type⟩)):=by
  rintro k hk H rfl;exact⟨kC.set _ o_,by rw[alb];omega,(aB o_).trans gC0',(aB o_).trans gC1,aH _ _ _⟩
 have fin0:∀ (tm:Tm) (k:Int),k≠4->nth tm 1=i_ a->nth tm 2=.str nm->nth tm 3=.ptr h.z 0 0->nth tm 6=.ptr (h.z+1) 0 0->nth tm 7=.ptr (h.z+1+1) 0 0->R (cS K m) 1000000000000 [.code vu] (IQ Hb (fun v h2=>∃ v' h3,cG v h2=(v',h3)/\BC d a v'/\HK h h3)) .normal ⟨tm,⟨[],.no,none,185⟩⟩ (HC.set (h.z+1+1) (.box (bo ⟨k,a,0,d.params,d.type⟩))):=by
  intro tm k hk t1 t2 t3 t6 t7;obtain⟨q1,q2,q3,q4,q5⟩:=st k hk _ rfl;exact fin _ _ ⟨q1,q2,rfl,q3,⟨_,q4,rfl⟩,⟨_,q5,hk⟩,t1,t2,t3,t6,t7⟩
 by_cases q0:d.kind=0
 ·simp only[go_sem,simprocAttr,q0,gC2];exact fin0 _ 0 (by decide) k_ k_ k_ k_ k_
 by_cases q1:d.kind=1
 ·simp only[go_sem,simprocAttr,q1,gC2];exact fin0 _ 1 (by decide) k_ k_ k_ k_ k_
 by_cases q2:d.kind=2
 ·simp only[go_sem,simprocAttr,q2,gC2];exact fin0 _ 2 (by decide) k_ k_ k_ k_ k_
 have e0:decide (d.kind=0)=false:=D_ q0;have e1:decide (d.kind=1)=false:=D_ q1;have e2:decide (d.kind=2)=false:=D_ q2;by_cases q3:d.kind=3
 ·have e3:decide (d.kind=3)=true:=T_ q3;obtain⟨s1,s2,s3',s4,s5⟩:=st 3 (by decide) _ rfl;obtain⟨HD,hHD⟩:∃ HD:AH,HD=HC.set (h.z+1+1) (.box (bo ⟨3,a,0,d.params,d.type⟩)):=⟨_,rfl⟩
  rw[<- hHD]at s1 s2 s3' s4 s5;unfold bo at hHD;have s3:=s3';have s5':=s5;unfold aM at s3;unfold bo at s5;simp only[go_sem,simprocAttr,e0,e1,e2,e3,gC2,<- hHD,s3,db];clear hHD;refine aX (fun hnm=>?_) (fun hnm=>?_)
  ·have hst:=iN s4 rfl ⟨3,a,0,d.params,d.type⟩;rw[fM]at hst;unfold bo at hst;simp only[go_sem,simprocAttr,s5,hst];exact ret _ ⟨3,a,0,d.params,d.type⟩ _ (hset _ _ s1) (by rw[alb];omega) k_ (aH _ _ _) (fun q=>by simp only[]at q;omega)
  ·simp only[go_sem,simprocAttr];refine bB (ahq d a nm h.z 8 d.ctors.length h) d.ctors.length o_ ⟨_,0,z_ _,rfl,⟨s1,s2,rfl,s3',⟨_,s4,rfl⟩,⟨_,s5',by decide⟩,k_,k_,k_,k_,k_⟩,k_⟩ ?_;rintro j fr H2 ⟨tm,p,hp,rfl,⟨hk,hn,_,b0',⟨cs,b1,hcs⟩,⟨k,b2,hk4⟩,t1,t2,t3,t6,t7⟩,t8⟩;have b0:=b0';unfold aM at b0;unfold Pt;simp only[go_sem,simprocAttr,t3,t8,b0,L_];refine aX (fun hlt=>?_) (fun hge=>?_)
   ·have hlt:p<d.ctors.length:=o_;have hget:d.ctors[p]?=some d.ctors[p]:=a_ hlt;revert hget;generalize d.ctors[p]=c;intro hget;have ha:=fun h=>aK fN hget .i64 h
    have hf:∀ h,cp (.vptr (hT c)) h 0 1 false=.val (.vptr (.str c.name)) h:=fun h=>rfl
    have hf1:∀ h,cp (.vptr (hT c)) h 1 5 true=.val (.vptr (.agg (aJ c.type))) h:=fun h=>rfl
    have hlT:=kG c.type;have hst:=iN b1 hcs ⟨4,a,p,d.params,c.type⟩;rw[fM]at hst;unfold bo at hst;unfold aJ at hf1 hlT;have hw:=aP p o_;simp only[go_sem,simprocAttr,Ja,t2,t3,t8,b0,ha,hf,eB,db];refine aX (fun hnm=>?_) (fun hnm=>?_)
    ·simp only[go_sem,simprocAttr,t1,t3,t6,t8,b0,ha,hf1,hlT,rX,hst];exact ret _ ⟨4,a,p,d.params,c.type⟩ _ (hset _ _ hk) (by rw[alb];omega) (q_ t6) (aH _ _ _) (fun q=>⟨rfl,p,hlt,rfl⟩)
    ·simp only[go_sem,simprocAttr,t8,hw];exact⟨j-1,o_,_,p+1,o_,rfl,⟨hk,hn,rfl,b0',⟨cs,b1,hcs⟩,⟨k,b2,hk4⟩,q_ t1,q_ t2,q_ t3,q_ t6,q_ t7⟩,k_⟩
   ·have hst:=iN b1 hcs ⟨5,a,0,d.rparams,d.rtype⟩;rw[fM]at hst;unfold bo at hst;simp only[go_sem,simprocAttr,t1,t3,t6,b0,Fj,hst];exact ret _ ⟨5,a,0,d.rparams,d.rtype⟩ _ (hset _ _ hk) (by rw[alb];omega) (q_ t6) (aH _ _ _) (fun q=>by simp only[]at q;omega)
 have e3:decide (d.kind=3)=false:=D_ q3;simp only[go_sem,simprocAttr,e0,e1,e2,e3];refine bB (ahq d a nm h.z 9 d.funs.length h) d.funs.length o_ ⟨_,0,z_ _,rfl,⟨kC,o_,rfl,gC0',⟨_,gC1,rfl⟩,⟨_,gC2',by decide⟩,k_,k_,k_,k_,k_⟩,k_⟩ ?_;rintro j fr H2 ⟨tm,p,hp,rfl,⟨hk,hn,_,b0',⟨cs,b1,hcs⟩,⟨k,b2,hk4⟩,t1,t2,t3,t6,t7⟩,t9⟩;have b0:=b0';unfold aM at b0;unfold Pq;simp only[go_sem,simprocAttr,t3,t9,b0,L_];refine aX (fun hlt=>?_) (fun hge=>?_)
 ·have hlt:p<d.funs.length:=o_;have hget:d.funs[p]?=some d.funs[p]:=a_ hlt;revert hget;generalize d.funs[p]=c;intro hget;have ha:=fun h=>aK gj hget .i64 h
  have hf:∀ h,cp (.vptr (fQ c)) h 0 1 false=.val (.vptr (.str c.name)) h:=fun h=>rfl
  have hf1:∀ h,cp (.vptr (fQ c)) h 1 5 true=.val (.vptr (.agg (aJ c.type))) h:=fun h=>rfl
  have hlT:=kG c.type;have hst:=iN b1 hcs ⟨6,a,p,d.params,c.type⟩;rw[fM]at hst;unfold bo at hst;unfold aJ at hf1 hlT;have hw:=aP p o_;simp only[go_sem,simprocAttr,IZ,t2,t3,t9,b0,ha,hf,eB,db];refine aX (fun hnm=>?_) (fun hnm=>?_)
  ·simp only[go_sem,simprocAttr,t1,t3,t6,t9,b0,ha,hf1,hlT,rX,hst];exact ret _ ⟨6,a,p,d.params,c.type⟩ _ (hset _ _ hk) (by rw[alb];omega) (q_ t6) (aH _ _ _) (fun q=>by simp only[]at q;omega)
  ·simp only[go_sem,simprocAttr,t9,hw];exact⟨j-1,o_,_,p+1,o_,rfl,⟨hk,hn,rfl,b0',⟨cs,b1,hcs⟩,⟨k,b2,hk4⟩,q_ t1,q_ t2,q_ t3,q_ t6,q_ t7⟩,k_⟩
 ·simp only[go_sem,simprocAttr];exact fin _ _ ⟨hk,hn,rfl,b0',⟨cs,b1,hcs⟩,⟨k,b2,hk4⟩,q_ t1,q_ t2,q_ t3,q_ t6,q_ t7⟩
end
section
variable {K:aQ}{h:AH}
def eZ:EV:=⟨0,0,0,0,t0⟩
theorem ac7 (h:AH):cE (.agg zE) h=(rq eZ,h):=Zj h
def aiu (env:List DV)(v:AV):Prop:=∃ (e:EV) (f:Int),v=.tup [rq e,i_ f]/\(f=0->e.kind=4->∃ (n j:Nat) (d:DV),env[n]?=some d/\e.decl=(n:Int)/\j<d.ctors.length/\e.item=(j:Int))
def I1150 (env:List DV)(nm:ByteArray)(b:Nat)(h0:AH)(j:Nat)(fr:AF)(h:AH):Prop:=∃ tm p,p+j=env.length/\fr=⟨tm,⟨[],.no,none,150⟩⟩/\HK h0 h/\b<h.z/\h.get b=some (.box zE)/\nth tm 0=.ls (env.map bW)/\nth tm 1=.str nm/\nth tm 4=.ptr b 0 0/\nth tm 6=i_ (p:Int)
theorem aa2 (hK:aZ K)(m:Nat)(env:List DV)(nm:ByteArray)(ds:∀ d∈env,DS d)(hl:env.length<1000):
  ∃ v h',cS K (m+2) (.fn 150 [] []) [.ls (env.map bW),.str nm] .no h=some (.ret v,.no,h')/\aiu env v/\HK h h':=by
 refine bh hK ai6 (ae (jD _ _) (ae (gK _ _) (aC _))) ?_;obtain⟨H,hH⟩:∃ H:AH,H=h.new (.box zE):=⟨_,rfl⟩
 have k0:HK h H:=by rw[hH];exact HK.new _ _
 have n0:H.z=h.z+1:=by rw[hH,ala]
 have g0:H.get h.z=some (.box zE):=by rw[hH,aE]
 unfold zE at hH;unfold agi;simp only[go_sem,simprocAttr,<- hH,Jy];clear hH;refine bB (I1150 env nm h.z h) env.length o_ ⟨_,0,z_ _,rfl,k0,o_,g0,k_,k_,k_,k_⟩ ?_;clear k0 n0 g0 H;rintro j fr H2 ⟨tm,p,hp,rfl,k2,n2,g2,t0,t1,t4,t6⟩;unfold PB;simp only[go_sem,simprocAttr,t0,t6,L_];refine aX (fun hlt=>?_) (fun hge=>?_)
 ·have hlt:p<env.length:=o_;have hget:env[p]?=some env[p]:=a_ hlt;have hds:=ds _ (m_ hget);revert hget hds;generalize env[p]=d;intro hget hds;have ha:=fun h=>aK eL hget .i64 h
  have hld:=fun h=>cI (v:=bW d) (sz:=23) rfl (eL d) h
  have hw:=aP p o_;obtain⟨v,H3,e3,⟨l,rfl,hl3,_,_⟩,k3⟩:=TP (h:=H2) hK m d hds;obtain⟨v,H4,e4,⟨b,rfl⟩,k4⟩:=aa1 (h:=H3) hK m l nm o_;have n4:h.z<H4.z:=by have:=k3.z;have:=k4.z;omega
  have g4:=(k4.kw _ (by have:=k3.z;omega)).trans ((k3.kw _ o_).trans g2);have k24:=(k2.trans k3).trans k4;cases b with
  |true=>
   obtain⟨v,H5,e5,⟨e,rfl,he⟩,k5⟩:=afE (h:=H4) hK m d (p:Int) nm hds;have g5:=(k5.kw _ o_).trans g4;have hst:=iN g5 rfl e;simp only[go_sem,simprocAttr,Aj,t0,t1,t4,t6,ha,hld,e3,e4,e5,hst];have gs:=aH H5 h.z (.box (bo e));unfold bo at gs;refine⟨rfl,rfl,.inr rfl,[rq e,i_ 0],by simp only[go_sem,simprocAttr,aap,t4];rfl,_,_,bz (ae (zj _ _) (ae (aG _ _ _) (aC _))),⟨e,0,rfl,fun _ q=>?_⟩,(k24.trans k5).set _ o_⟩;obtain⟨q1,jj,q2,q3⟩:=he q;exact⟨p,jj,d,hget,q1,q2,q3⟩
  |false=>
   simp only[go_sem,simprocAttr,Aj,t0,t1,t6,ha,hld,e3,e4,hw];exact⟨j-1,o_,_,p+1,o_,rfl,k24,n4,g4,q_ t0,q_ t1,q_ t4,k_⟩
 ·have hb:∀ H,bT H zE []=.val (.agg zE) H:=fun _=>rfl
  have hst:=bp g2 (sz:=9) (vs:=zE) rfl rfl;unfold zE at hb hst;simp only[go_sem,simprocAttr,Jz,t4,hb,hst];have gs:=aH H2 h.z (.box zE);unfold zE at gs;refine⟨rfl,rfl,.inr rfl,[.agg zE,i_ 9],by simp only[go_sem,simprocAttr,aap,t4,gs];rfl,_,_,bz (ae (ac7 _) (ae (aG _ _ _) (aC _))),⟨eZ,9,rfl,fun q=>by omega⟩,k2.set _ o_⟩
theorem DG {l:List T}{p:Nat}{x:T}(h:l[p]?=some x):size x<=bO l:=by
 induction l generalizing p with
 |nil=>cases h
 |cons a l ih=>
  cases p with
  |zero=>cases h;rw[bO];omega
  |succ p=>have:=ih (p:=p) h;rw[bO];omega
def jy (env:List DV)(own:List ByteArray)(d:DV):AV:=.agg (.ls (env.map bW) :: .ls (own.map AV.str)::aM d)
def cO (env:List DV)(own:List ByteArray)(d:DV):List AV:=.ls (env.map bW) :: .ls (own.map AV.str)::aM d
theorem xS (env:List DV)(own:List ByteArray)(d:DV)(h:AH):cE (jy env own d) h=(jy env own d,h):=by
 have f:=fg d;have n:=jd d;rw[cA]at f n;simp only[AV.free,AV.norm]at f n;have n:AV.ald (aM d)=aM d:=by injection n
 have fe:AV.ale (env.map bW)=true:=bE fg env;have fo:AV.ale (own.map AV.str)=true:=bE (fun _=>rfl) own;rw[bG (by simp only[jy,AV.free,AV.ale,f,fe,fo,Bool.and_self])];simp only[jy,AV.norm,AV.ald,n,bw jd,bw (f:=AV.str) (fun _=>rfl)]
structure SC (env:List DV)(own:List ByteArray)(d:DV):Prop where
 ds:∀ d∈env,DS d
 d:DS d
 len:env.length<1000
 own:own.length<=10000
structure xk (env:List DV)(own:List ByteArray)(d:DV)(t:T)(b:Nat)(h0:AH)(h:AH):Prop where
 hk:HK h0 h
 hb:h0.z<=b
 hn:b+1<h.z
 g0:h.get b=some (.box (cO env own d))
 g1:h.get (b+1)=some (.box (aJ t))
theorem xk.up {env:List DV}{own:List ByteArray}{d:DV}{t:T}{b:Nat}{h0 h h':AH}(q:xk env own d t b h0 h)(k:HK h h'):xk env own d t b h0 h':=
 ⟨q.hk.trans k,q.hb,by have:=k.z;have:=q.hn;omega,(k.kw _ (by have:=q.hn;omega)).trans q.g0,(k.kw _ q.hn).trans q.g1⟩
def I1195 (env:List DV)(own:List ByteArray)(d:DV)(t:T)(b:Nat)(h0:AH)(j:Nat)(fr:AF)(h:AH):Prop:=∃ tm p,p+j=t.K.length/\fr=⟨tm,⟨[],.no,none,195⟩⟩/\xk env own d t b h0 h/\nth tm 2=.ptr b 0 0/\nth tm 3=.ptr (b+1) 0 0/\nth tm 7=i_ (p:Int)
theorem c1195 (hK:aZ K)(env:List DV)(own:List ByteArray)(d:DV)(sc:SC env own d):∀ (n m:Nat) (t:T) (h:AH),n+4<=m->size t<=n->n<=10000000->
  ∃ v h',cS K m (.fn 195 [] []) [jy env own d,enc t] .no h=some (.ret v,.no,h')/\(∃ e:Int,v=i_ e)/\HK h h':=by
 intro n;induction n with
 |zero=>intro m t h _ hs;have:=bZ t;omega
 |succ n ih=>
  intro m t h hm hs hn;obtain⟨m,rfl⟩:∃ k,m=k+3:=⟨m-3,o_⟩
  refine bh hK aiT (ae (xS _ _ _ h) (ae (bR t h) (aC _))) ?_;have hsk:=eA t;have hlk:=bP t.K;have hbx:=bN (h:=h) (cO env own d) 25 rfl;have n1:=ala h (.box (cO env own d));obtain⟨H,hH⟩:∃ H:AH,H=(h.new (.box (cO env own d))).new (.box (aJ t)):=⟨_,rfl⟩
  have n0:H.z=h.z+2:=by rw[hH,ala,n1]
  have q0:xk env own d t h.z h H:=⟨by rw[hH];exact(HK.new _ _).add _,e_ _,o_,by rw[hH,aL o_,aE],by rw[hH,<- n1,aE]⟩;have ret:∀ (tm:Tm) (e:Int) (H:AH),HK h H->nth tm 4=i_ e->IQ TA (fun v h2=>∃ v' h3,cG v h2=(v',h3)/\(∃ e:Int,v'=i_ e)/\HK h h3) .ret ⟨tm,⟨[],.no,none,195⟩⟩ H:=fun tm e H hk t2=>
   ⟨rfl,rfl,.inr rfl,[i_ e],by simp only[go_sem,simprocAttr,TA,t2],i_ e,_,aS (by intro l e;cases e) (aG _ _ _),⟨_,rfl⟩,hk⟩
  have loop:∀ (tm:Tm) (H:AH),xk env own d t h.z h H->nth tm 2=.ptr h.z 0 0->nth tm 3=.ptr (h.z+1) 0 0->R (cS K (m+2)) 1000000000000 [.code Ae] (IQ TA (fun v h2=>∃ v' h3,cG v h2=(v',h3)/\(∃ e:Int,v'=i_ e)/\HK h h3)) .normal ⟨tm,⟨[],.no,none,195⟩⟩ H:=by
   intro tm H q t2 t3;simp only[go_sem,simprocAttr,Ae];refine bB (I1195 env own d t h.z h) t.K.length o_ ⟨_,0,z_ _,rfl,q,q_ t2,q_ t3,k_⟩ ?_;clear q t2 t3 H tm;rintro j fr H2 ⟨tm,p,hp,rfl,q,t2,t3,t7⟩;have g0:=q.g0;have g1:=q.g1;unfold cO aM at g0;unfold aJ at g1;unfold Pm;simp only[go_sem,simprocAttr,t3,t7,g1,L_];refine aX (fun hlt=>?_) (fun hge=>?_)
   ·have hlt:p<t.K.length:=o_;have hget:t.K[p]?=some t.K[p]:=a_ hlt;have hks:=DG hget;revert hget hks;generalize t.K[p]=x;intro hget hks;have ha:=fun h=>aK bJ hget .i64 h
    have hld:=fun h=>cI (v:=enc x) (sz:=5) (hG x) (bJ x) h
    have hw:=aP p o_;obtain⟨v,H3,e3,⟨e,rfl⟩,k3⟩:=ih (m+2) x H2 o_ o_ o_;unfold jy aM at e3;simp only[go_sem,simprocAttr,IM,t2,t3,t7,g0,g1,ha,hld,e3,IN];by_cases qe:e=0
    ·subst qe;simp only[go_sem,simprocAttr,t7,hw];exact⟨j-1,o_,_,p+1,o_,rfl,q.up k3,q_ t2,q_ t3,k_⟩
    ·have de:decide (e=0)=false:=D_ qe;simp only[go_sem,simprocAttr,de];exact ret _ e H3 (q.hk.trans k3) k_
   ·simp only[go_sem,simprocAttr,IL];exact ret _ 0 H2 q.hk k_
  have g0:=q0.g0;have g1:=q0.g1;unfold cO at hbx;unfold cO aM at g0;unfold aJ at g1;rw[aU t];unfold jy af5;unfold aJ cO at hH;unfold cO at n1;simp only[go_sem,simprocAttr,hbx,n1,<- hH,IK,g1];clear hH hbx n1;by_cases a1:t.kind=3
  case neg=>
   have d1:decide (t.kind=3)=false:=D_ a1;simp only[go_sem,simprocAttr,d1];exact loop _ _ q0 k_ k_
  have d1:decide (t.kind=3)=true:=T_ a1;obtain⟨v,H3,e3,⟨e,f,rfl,_⟩,k3⟩:=aa2 (h:=H) hK m env t.name sc.ds sc.len;have q3:=q0.up k3;obtain⟨HA,hHA⟩:∃ HA:AH,HA=(H3.new (.box zE)).set H3.z (.box (bo e)):=⟨_,rfl⟩
  have kA:HK H3 HA:=by rw[hHA];exact(HK.new _ _).set _ (e_ _)
  have qA:=q3.up kA;have nA:H3.z<HA.z:=by rw[hHA,alb,ala];omega
  have gA:HA.get H3.z=some (.box (bo e)):=by rw[hHA,aH]
  have hst:=iN (aE H3 (.box zE)) rfl e;rw[<- hHA]at hst;unfold zE at hst;clear hHA;have gA0:=qA.g0;have gA1:=qA.g1;have gAe:=gA;unfold cO aM at gA0;unfold aJ at gA1;unfold bo at gAe;simp only[go_sem,simprocAttr,d1,g0,g1,e3,hst];by_cases qf:f=0
  ·subst qf;simp only[go_sem,simprocAttr,gA1,gAe,L_];by_cases ql:(t.L.length:Int)=e.params
   ·have dl:decide ((t.L.length:Int)=e.params)=true:=T_ ql;simp only[go_sem,simprocAttr,dl];exact loop _ _ qA k_ k_
   ·have dl:decide ((t.L.length:Int)=e.params)=false:=D_ ql;simp only[go_sem,simprocAttr,dl];exact ret _ 15 _ qA.hk k_
  have df:decide (f=0)=false:=D_ qf;obtain⟨v,H4,e4,⟨b,rfl⟩,k4⟩:=aa1 (h:=HA) hK (m+1) own t.name (by have:=sc.own;omega);have q4:=qA.up k4;cases b with
  |false=>
   simp only[go_sem,simprocAttr,df,gA0,gA1,e4];exact ret _ 9 _ q4.hk k_
  |true=>
   have g40:=q4.g0;have g41:=q4.g1;unfold cO aM at g40;unfold aJ at g41;obtain⟨v,H5,e5,⟨e',rfl,_⟩,k5⟩:=afE (h:=H4) hK (m+1) d (env.length:Int) t.name sc.d;have g5:=((k4.trans k5).kw _ nA).trans gA;have hs5:=iN g5 rfl e';have n5:=(k4.trans k5).z;have k6:HK h (H5.set H3.z (.box (bo e'))):=(q4.hk.trans k5).set _ (by have:=q0.hk.z;have:=k3.z;omega);have q6:xk env own d t h.z h (H5.set H3.z (.box (bo e'))):=⟨k6,e_ _,by rw[alb];have:=qA.hn;omega,by rw[aB (by have:=q0.hn;have:=k3.z;omega)];exact(q4.up k5).g0,by rw[aB (by have:=q0.hn;have:=k3.z;omega)];exact(q4.up k5).g1⟩;have g6:=aH H5 H3.z (.box (bo e'));have g61:=q6.g1;unfold bo at g6;unfold bo aJ at g61;rw[cA]at e5;unfold aM bo at *;simp only[go_sem,simprocAttr,df,gA0,gA1,e4,g40,g41,e5,hs5,g6,g61,L_];by_cases ql:(t.L.length:Int)=e'.params
   ·have dl:decide ((t.L.length:Int)=e'.params)=true:=T_ ql;simp only[go_sem,simprocAttr,dl];exact loop _ _ q6 k_ k_
   ·have dl:decide ((t.L.length:Int)=e'.params)=false:=D_ ql;simp only[go_sem,simprocAttr,dl];exact ret _ 15 _ q6.hk k_
end
