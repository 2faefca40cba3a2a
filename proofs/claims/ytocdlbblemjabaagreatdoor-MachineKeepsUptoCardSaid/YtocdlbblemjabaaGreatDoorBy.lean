/- MachineKeeps: guards: declarations, environments (no condition). -/
import Derived.Test.YtocdlbblemjabaaGreatDoorBx
namespace Go.Proofs.YtocdlbblemjabaaGreatDoor
open Go.AG Go.AG.MK
structure OE (d:DV):Prop where
 od:OD d
 fx:d.fixed<=400
theorem OE.of {d:DV}(fd:FD d)(un:UN d)(cn:CN d)(tm:TM d)(h0:0<=d.kind)(h1:d.kind<=4):OE d:=by
 refine⟨⟨cn.fx0,cn.fx1,tm.value,fun r hr=>?_,fun f hf=>⟨(cn.fn f hf).1,(cn.fn f hf).2,?_⟩⟩,?_⟩
 ·by_cases q:d.kind=3
  ·exact tm.rules q r hr
  ·rw[(un.a q).2.2]at hr;cases hr
 ·by_cases q:d.kind=4
  ·exact tm.funs q f hf
  ·rw[un.f q h0 h1]at hf;cases hf
 ·by_cases q:d.kind=3
  ·have h2:=cn.fx1 q;rw[EJ _ _ (e_ _)]at h2;have:=ma _ d.type (e_ _);have:=fd.ty;omega
  ·have:=(un.a q).1;omega
theorem DS.of {d:DV}(fd:FD d):DS d:=⟨by have:=fd.cl;omega,by have:=fd.fl;omega,by have:=fd.name;omega⟩
section
variable {K:aQ}{h:AH}
theorem c1087 (hK:aZ K)(m:Nat)(env:List DV)(d:DV)(fe:∀ d∈env,FD d/\OE d)(hl:env.length<1000)(fd:FD d)(bd:BD d)(hm:9000040<=m):
  ∃ v h',cS K m (.fn 87 [] []) [.ls (env.map bW),bW d] .no h=some (.ret v,.no,h')/\(∃ e:Int,v=i_ e/\(e=0->OE d))/\HK h h':=by
 obtain⟨m,rfl⟩:∃ k,m=k+4:=⟨m-4,o_⟩
 refine bh hK ajB (ae (jD _ _) (ae (mr d h) (aC _))) ?_;have ds:∀ d∈env,DS d:=fun d hd=>DS.of (fe d hd).1
 have sc:SC env [] d:=⟨ds,DS.of fd,hl,by simp⟩;have se:SE env:=⟨fun d hd=>⟨(fe d hd).2.od.fx0,(fe d hd).2.fx,fun c hc=>((fe d hd).1.ct c hc).2⟩⟩;rw[cA];have hbx:=bN (h:=h) (aM d) 23 rfl;obtain⟨H,hH⟩:∃ H:AH,H=h.new (.box (aM d)):=⟨_,rfl⟩
 have q0:my d h.z h H:=⟨by rw[hH];exact HK.new _ _,by rw[hH,ala];omega,by rw[hH,aE]⟩;have ret:∀ (tm:Tm) (e:Int) (H:AH),HK h H->nth tm 4=i_ e->(e=0->OE d)->IQ aaG (fun v h2=>∃ v' h3,cG v h2=(v',h3)/\(∃ e:Int,v'=i_ e/\(e=0->OE d))/\HK h h3) .ret ⟨tm,⟨[],.no,none,87⟩⟩ H:=fun tm e H hk t4 he=>
  ⟨rfl,rfl,.inr rfl,[i_ e],by simp only[go_sem,simprocAttr,aaG,t4],i_ e,_,aS (by intro l e;cases e) (aG _ _ _),⟨_,rfl,he⟩,hk⟩
 obtain⟨v,H1,e1,⟨b1,rfl,hb1⟩,k1⟩:=c1131 (h:=H) hK (m+3) d fd bd o_;have q1:=q0.up k1;obtain⟨v,H2,e2,⟨f2,rfl,hf2⟩,k2⟩:=c1132 (h:=H1) hK m d fd;have q2:=q1.up k2;obtain⟨v,H3,e3,⟨f3,rfl⟩,k3⟩:=c1133 (h:=H2) hK m env d ds hl fd;have q3:=q2.up k3;have g0:=q0.g;have g1:=q1.g;have g2:=q2.g;have g3:=q3.g;rw[cA]at e1 e2 e3;unfold aM at g0 g1 g2 g3 e1 e2 e3;unfold agM;simp only[go_sem,simprocAttr,hbx,<- hH,LD,g0];clear hH;by_cases a1:d.kind<0
 ·have d1:decide (d.kind<0)=true:=T_ a1;simp only[go_sem,simprocAttr,d1];exact ret _ 1 _ q0.hk k_ (by simp)
 have d1:decide (d.kind<0)=false:=D_ a1;by_cases a2:d.kind > 4
 ·have d2:decide (d.kind > 4)=true:=T_ a2;simp only[go_sem,simprocAttr,d1,g0,d2];exact ret _ 1 _ q0.hk k_ (by simp)
 have d2:decide (d.kind > 4)=false:=D_ a2;cases b1 with
 |false=>
  simp only[go_sem,simprocAttr,d1,g0,d2,AM,e1];exact ret _ 3 _ q1.hk k_ (by simp)
 |true=>
  simp only[go_sem,simprocAttr,d1,g0,d2,AM,e1,LF,g1,e2];by_cases c2:f2=0
  case neg=>
   have d3:decide (f2=0)=false:=D_ c2;simp only[go_sem,simprocAttr,d3];exact ret _ f2 _ q2.hk k_ (fun q=>absurd q c2)
  subst c2;simp only[go_sem,simprocAttr,LG,g2,e3];by_cases c3:f3=0
  case neg=>
   have d3:decide (f3=0)=false:=D_ c3;simp only[go_sem,simprocAttr,d3];exact ret _ f3 _ q3.hk k_ (fun q=>absurd q c3)
  subst c3;obtain⟨v,H4,e4,⟨f4,rfl,hf4⟩,k4⟩:=c1134 (h:=H3) hK (m+3) env d sc se fd bd (hf2 rfl) o_;rw[cA]at e4;unfold aM at e4;simp only[go_sem,simprocAttr,LH,g3,e4];exact ret _ f4 _ (q3.hk.trans k4) k_ (fun q=>OE.of fd (hb1 rfl) (hf2 rfl) (hf4 q) o_ o_)
def I1047 (env:List DV)(h0:AH)(j:Nat)(fr:AF)(h:AH):Prop:=∃ tm p,p+j=env.length/\fr=⟨tm,⟨[],.no,none,47⟩⟩/\HK h0 h/\nth tm 0=.ls (env.map bW)/\nth tm 4=i_ (p:Int)/\∀ (i:Nat) x,i<p->env[i]?=some x->OE x
def YY (env:List DV)(v:AV):Prop:=∃ a e:Int,v=.tup [i_ a,i_ e]/\(e=0->∀ d∈env,OE d)
theorem Qz (l:List DV):(AV.ls (l.map bW)).free=true:=by simp only[AV.free];exact bE fg l
theorem c1047 (hK:aZ K)(m:Nat)(env:List DV)(fe:∀ d∈env,FD d/\BD d)(hl:env.length<1000)(hm:9000050<=m):
  ∃ v h',cS K m (.fn 47 [] []) [.ls (env.map bW)] .no h=some (.ret v,.no,h')/\YY env v/\HK h h':=by
 obtain⟨m,rfl⟩:∃ k,m=k+1:=⟨m-1,o_⟩
 refine bh hK ajU (ae (jD _ _) (aC _)) ?_;have ret:∀ (tm:Tm) (a e:Int) (H:AH),HK h H->nth tm 2=i_ a->nth tm 3=i_ e->(e=0->∀ d∈env,OE d)->IQ aaM (fun v h2=>∃ v' h3,cG v h2=(v',h3)/\YY env v'/\HK h h3) .ret ⟨tm,⟨[],.no,none,47⟩⟩ H:=fun tm a e H hk t2 t3 he=>
  ⟨rfl,rfl,.inr rfl,[i_ a,i_ e],by simp only[go_sem,simprocAttr,aaM,t2,t3],_,_,bz (ae (aG _ _ _) (ae (aG _ _ _) (aC _))),⟨a,e,rfl,he⟩,hk⟩
 have d0:decide ((env.length:Int) > 1000)=false:=d_;unfold ag5;simp only[go_sem,simprocAttr,MV,L_,d0,MW];refine bB (I1047 env h) env.length o_ ⟨_,0,z_ _,rfl,HK.refl h,k_,k_,fun i x hi=>by omega⟩ ?_;rintro j fr H2 ⟨tm,p,hp,rfl,k2,t0,t4,pre⟩;unfold Ql;simp only[go_sem,simprocAttr,t0,t4,L_];refine aX (fun hlt=>?_) (fun hge=>?_)
 ·have hlt:p<env.length:=o_;have hget:env[p]?=some env[p]:=a_ hlt;have hfd:=fe _ (m_ hget);revert hget hfd;generalize env[p]=d;intro hget hfd;have ha:=fun h=>aK eL hget .i64 h
  have hld:=fun h=>cI (v:=bW d) (sz:=23) rfl (eL d) h
  have hsl:=fun h=>ot (f:=bW) (sz:=23) eL h env .i64 p o_
  have hw:=aP p o_;have htk:∀ x∈env.take p,FD x/\OE x:=fun x hx=>by
   obtain⟨i,hi⟩:=List.getElem?_of_mem hx;rw[List.getElem?_take]at hi;split at hi
   ·exact⟨(fe x (m_ hi)).1,pre i x o_ hi⟩
   ·cases hi
  obtain⟨v,H3,e3,⟨e,rfl,he⟩,k3⟩:=c1087 (h:=H2) hK m (env.take p) d htk (by rw[List.length_take];omega) hfd.1 hfd.2 o_;have bq1:=bU (Qz env);have bq2:=bU (Qz (env.take p));have bq3:=bU (fg d);simp only[go_sem,simprocAttr,MY,t0,t4,ha,hld,hsl,e3,MZ];by_cases qe:e=0
  ·subst qe;simp only[go_sem,simprocAttr,t4,hw];refine⟨j-1,o_,_,p+1,o_,rfl,k2.trans k3,q_ t0,k_,fun i x hi hx=>?_⟩;by_cases q:i=p
   ·subst q;rw[hget]at hx;cases hx;exact he rfl
   ·exact pre i x o_ hx
  ·have de:decide (e=0)=false:=D_ qe;simp only[go_sem,simprocAttr,de,t4];exact ret _ (p:Int) e H3 (k2.trans k3) k_ k_ (fun q=>absurd q qe)
 ·simp only[go_sem,simprocAttr,MX];exact ret _ 0 0 H2 k2 k_ k_ (fun _=>jx fun i x hi hx=>pre i x o_ hx)
structure PE (n:Nat)(env:List DV):Prop where
 pd:∀ d∈env,PD n d
 bd:∀ d∈env,BD d
 len:env.length<=n
theorem afM (hK:aZ K)(n m:Nat)(env:List DV)(pe:PE n env)(hn:n<=9000000)(hm:9000060<=m):
  ∃ v h',cS K m (.fn 24 [] []) [.ls (env.map bW)] .no h=some (.ret v,.no,h')/\(∃ b,v=.bool b/\(b=true->Eg env))/\HK h h':=by
 obtain⟨m,rfl⟩:∃ k,m=k+1:=⟨m-1,o_⟩
 refine bh hK aj4 (ae (jD _ _) (aC _)) ?_;obtain⟨v,H1,e1,⟨b1,rfl,hb1⟩,k1⟩:=c1046 (h:=h) hK n m env pe.pd pe.len o_ o_;have ret:∀ (tm:Tm) (b:Bool) (H:AH),HK h H->nth tm 2=.bool b->(b=true->Eg env)->IQ aaQ (fun v h2=>∃ v' h3,cG v h2=(v',h3)/\(∃ b,v'=.bool b/\(b=true->Eg env))/\HK h h3) .ret ⟨tm,⟨[],.no,none,24⟩⟩ H:=fun tm b H hk t2 hb=>
  ⟨rfl,rfl,.inr rfl,[.bool b],by simp only[go_sem,simprocAttr,aaQ,t2],.bool b,_,aS (by intro l e;cases e) (aW _ _),⟨_,rfl,hb⟩,hk⟩
 unfold ahf;cases b1 with
 |false=>
  simp only[go_sem,simprocAttr,AZ,e1];exact ret _ false H1 k1 k_ (by simp)
 |true=>
  obtain⟨fe,hl⟩:=hb1 rfl;obtain⟨v,H2,e2,⟨a,e,rfl,he⟩,k2⟩:=c1047 (h:=H1) hK m env (fun d hd=>⟨fe d hd,pe.bd d hd⟩) o_ o_;simp only[go_sem,simprocAttr,AZ,e1,NO,e2,NQ];exact ret _ (decide (e=0)) H2 (k1.trans k2) k_ (fun q=>Eg.of fe hl fun d hd=>(he (of_decide_eq_true q) d hd).od)
end
section
variable {K:aQ}{h:AH}
theorem c1049 (hK:aZ K)(n m:Nat)(t:T)(hm:n+7<=m)(hs:size t<=n)(hn:n<=10000000)(bt:BT t):
  ∃ v h',cS K m (.fn 49 [] []) [enc t] .no h=some (.ret v,.no,h')/\(∃ b,v=.bool b/\(b=false->TOK t))/\HK h h':=by
 obtain⟨m,rfl⟩:∃ k,m=k+1:=⟨m-1,o_⟩
 refine bh hK ajT (ae (bR t h) (aC _)) ?_;obtain⟨H,hH⟩:∃ H:AH,H=h.new (.box (aJ t)):=⟨_,rfl⟩
 have k0:HK h H:=by rw[hH];exact HK.new _ _
 have g0:H.get h.z=some (.box (aJ t)):=by rw[hH,aE]
 obtain⟨v,H1,e1,⟨e,rfl,he⟩,k1⟩:=c7 (h:=H) hK 60000 8 65536 65536 n m t o_ hs o_ bt;rw[aU t]at e1;unfold aJ at hH g0;rw[aU t];unfold ag4;simp only[go_sem,simprocAttr];rw[<- hH];clear hH;by_cases q:e=0
 ·have d0:decide (e=0)=true:=T_ q;obtain⟨ck,hz⟩:=he q;simp only[go_sem,simprocAttr,AT,g0,e1,d0];exact⟨rfl,rfl,.inr rfl,[.bool false],by simp only[go_sem,simprocAttr,aaL],.bool false,_,aS (by intro l e;cases e) (aW _ _),⟨_,rfl,fun _=>ck.tok o_ 4096 t 0 hz o_⟩,k0.trans k1⟩
 ·have d0:decide (e=0)=false:=D_ q;simp only[go_sem,simprocAttr,AT,g0,e1,d0];exact⟨rfl,rfl,.inr rfl,[.bool true],by simp only[go_sem,simprocAttr,aaL],.bool true,_,aS (by intro l e;cases e) (aW _ _),⟨_,rfl,by simp⟩,k0.trans k1⟩
theorem abI {l:List T}{x:T}(h:x∈l):size x<=bO l:=by
 obtain⟨i,hi⟩:=List.getElem?_of_mem h;exact DG hi
structure PT (n:Nat)(l:List T):Prop where
 sz:bO l<=n
 bt:∀ t∈l,BT t
theorem c1025 (hK:aZ K)(n m:Nat)(env:List DV)(l:List T)(pe:PE n env)(pt:PT n l)(hn:n<=9000000)(hm:20000000<=m):
  ∃ v h',cS K m (.fn 25 [] []) [.ls (env.map bW),.ls (l.map enc)] .no h=some (.ret v,.no,h')/\(∃ b,v=.bool b/\(b=true->Eg env/\∀ t∈l,TOK t/\size t<=4096))/\HK h h':=by
 obtain⟨m,rfl⟩:∃ k,m=k+3:=⟨m-3,o_⟩
 have hll:=bP l;have hsz:=pt.sz;refine bh hK aj3 (ae (jD _ _) (ae (pY l h) (aC _))) ?_;have ret:∀ (tm:Tm) (b:Bool) (H:AH),HK h H->nth tm 4=.bool b->(b=true->Eg env/\∀ t∈l,TOK t/\size t<=4096)->IQ aaP (fun v h2=>∃ v' h3,cG v h2=(v',h3)/\(∃ b,v'=.bool b/\(b=true->Eg env/\∀ t∈l,TOK t/\size t<=4096))/\HK h h3) .ret ⟨tm,⟨[],.no,none,25⟩⟩ H:=fun tm b H hk t2 hb=>
  ⟨rfl,rfl,.inr rfl,[.bool b],by simp only[go_sem,simprocAttr,aaP,t2],.bool b,_,aS (by intro l e;cases e) (aW _ _),⟨_,rfl,hb⟩,hk⟩
 obtain⟨v,H1,e1,⟨x,rfl⟩,k1⟩:=c24 hK n (m+2) 60 l h o_ hsz o_;obtain⟨v,H2,e2,⟨b2,rfl,hb2⟩,k2⟩:=afN (h:=H1) hK n (m+2) l o_ hsz o_ pt.bt;obtain⟨v,H3,e3,⟨b3,rfl,hb3⟩,k3⟩:=afM (h:=H2) hK n (m+2) env pe hn o_;have ps:Ps K m (.fn (49) [] []) TOK l:=⟨fun x hx h=>c1049 hK n m x o_ (by have:=abI hx;omega) o_ (pt.bt x hx),fun h=>by rw[bG rfl];rfl⟩;obtain⟨v,H4,e4,⟨b4,rfl,hb4⟩,k4⟩:=c111 (h:=H3) hK ps o_;obtain⟨x1,hx1⟩:∃ y,decide (x<=60)=y:=⟨_,rfl⟩
 unfold ahe;simp only[go_sem,simprocAttr];cases x1
 case false=>
  simp only[go_sem,simprocAttr,pK,e1,hx1];exact ret _ false H1 k1 k_ (by simp)
 cases b2
 case false=>
  simp only[go_sem,simprocAttr,pK,e1,hx1,e2];exact ret _ false H2 (k1.trans k2) k_ (by simp)
 cases b3
 case false=>
  simp only[go_sem,simprocAttr,pK,e1,hx1,e2,e3];exact ret _ false H3 ((k1.trans k2).trans k3) k_ (by simp)
 cases b4
 case true=>
  simp only[go_sem,simprocAttr,pK,e1,hx1,e2,e3,e4];exact ret _ false H4 (((k1.trans k2).trans k3).trans k4) k_ (by simp)
 simp only[go_sem,simprocAttr,pK,e1,hx1,e2,e3,e4];exact ret _ true H4 (((k1.trans k2).trans k3).trans k4) k_ (fun _=>⟨hb3 rfl,fun t ht=>⟨hb4 rfl t ht,(hb2 rfl t ht).2⟩⟩)
end
section
variable {K:aQ}{h:AH}
def GrP (env:List DV)(_l:List T)(v:AV):Prop:=∃ (gs:List NV) (ids:List Int) (ok:Bool),v=.tup [.agg [.ls (gs.map aT)],.ls (ids.map AG.aO),.bool ok]/\
 (ok=true->Eg env/\ids.length<=4/\∃ ts,Wf gs ts/\gs.length<=65536/\∀ i∈ids,∃ t,At ts i t)
def nK (env:List DV)(l:List T):AV:=.agg [.ls (env.map bW),.ls (l.map enc)]
theorem akd (env:List DV)(l:List T)(h:AH):cE (nK env l) h=(nK env l,h):=by
 have fe:AV.ale (env.map bW)=true:=bE fg env;have fl:AV.ale (l.map enc)=true:=bE fW l;rw[bG (by simp only[nK,AV.free,AV.ale,fe,fl,Bool.and_self])];simp only[nK,AV.norm,AV.ald,bw jd,bw iL]
theorem Zn {GV:AV}{gs:List NV}(hf:GV.free=true)(hn:GV.norm=.ls (gs.map aT))(h:AH):cE (.agg [GV]) h=(.agg [.ls (gs.map aT)],h):=by
 rw[bG (by simp only[AV.free,AV.ale,hf,Bool.and_self])];simp only[AV.norm,AV.ald,hn]
theorem adz (gs:List NV):(AV.ls (gs.map aT)).free=true:=by simp only[AV.free];exact bE eQ gs
theorem ady (gs:List NV):(AV.ls (gs.map aT)).norm=.ls (gs.map aT):=by simp only[AV.norm,bw mj]
structure ahp (env:List DV)(l:List T)(b c:Nat)(p:Nat)(gs:List NV)(ts:List T)(ids:List Int)(GV V:AV)(h0 h:AH):Prop where
 hk:HK h0 h
 hb:h0.z=b
 hc:b+1<c
 hn:c<h.z
 g1:h.get b=some (.box [.ls (env.map bW),.ls (l.map enc)])
 g2:h.get (b+1)=some (.box [.nl])
 g5:h.get c=some (.box [GV])
 gf:GV.free=true
 gn:GV.norm=.ls (gs.map aT)
 gc:GV.cells=[GV]
 own:Own (c+1) 1 false h V (ids.map AG.aO)
 il:ids.length=p
 wf:Wf gs ts
 bt:∀ t∈ts,BT t
 gl:gs.length<=4096*p
 g16:gs.length<=65536
 at_:∀ i∈ids,∃ t,At ts i t
structure M1008 (l:List T)(b c p:Nat)(V:AV)(tm:Tm):Prop where
 t1:nth tm 1=.ptr b 0 0
 t2:nth tm 2=.ptr (b+1) 0 0
 t5:nth tm 5=.ptr c 0 0
 t6:nth tm 6=V
 t44:nth tm 44=.ls (l.map enc)
 t45:nth tm 45=i_ (l.length:Int)
 t46:nth tm 46=i_ (p:Int)
def I1008 (env:List DV)(l:List T)(b c:Nat)(h0:AH)(j:Nat)(fr:AF)(h:AH):Prop:=∃ tm p gs ts ids GV V,p+j=l.length/\fr=⟨tm,⟨[],.no,none,8⟩⟩/\ahp env l b c p gs ts ids GV V h0 h/\M1008 l b c p V tm
theorem c1008 (hK:aZ K)(n m:Nat)(env:List DV)(l:List T)(pe:PE n env)(pt:PT n l)(hn:n<=9000000)(hm:20000010<=m):
  ∃ v h',cS K m (.fn 8 [] []) [nK env l] .no h=some (.ret v,.no,h')/\GrP env l v/\HK h h':=by
 obtain⟨m,rfl⟩:∃ k,m=k+1:=⟨m-1,o_⟩
 have hll:=bP l;have hsz:=pt.sz;refine bh hK aj8 (ae (akd env l h) (aC _)) ?_;obtain⟨H,hH⟩:∃ H:AH,H=(h.new (.box [.ls (env.map bW),.ls (l.map enc)])).new (.box [.nl]):=⟨_,rfl⟩
 have n1:=ala h (.box [.ls (env.map bW),.ls (l.map enc)]);have k0:HK h H:=by rw[hH];exact(HK.new _ _).add _
 have n0:H.z=h.z+2:=by rw[hH,ala,n1]
 have g0:H.get h.z=some (.box [.ls (env.map bW),.ls (l.map enc)]):=by rw[hH,aL o_,aE]
 have g1:H.get (h.z+1)=some (.box [.nl]):=by rw[hH,<- n1,aE]
 have no:∀ (tm:Tm) (H:AH),HK h H->h.z+1<H.z->H.get (h.z+1)=some (.box [.nl])->nth tm 2=.ptr (h.z+1) 0 0->nth tm 3=.nl->nth tm 4=.bool false->IQ Hg (fun v h2=>∃ v' h3,cG v h2=(v',h3)/\GrP env l v'/\HK h h3) .ret ⟨tm,⟨[],.no,none,8⟩⟩ H:=fun tm H hk hn g t2 t3 t4=>
  ⟨rfl,rfl,.inr rfl,[.agg [.nl],.nl,.bool false],by simp only[go_sem,simprocAttr,Hg,t2,t3,t4,g],_,_,bz (ae (xR _) (ae (show cE .nl H=(.ls [],H) by rw[bG rfl];rfl) (ae (aW _ _) (aC _)))),⟨[],[],false,rfl,fun q=>by cases q⟩,hk⟩
 have hbz:∀ H:AH,bT H [.nl] []=.val (.agg [.nl]) H:=fun _=>rfl
 have nof:∀ (tm:Tm) (H2:AH),HK H H2->nth tm 2=.ptr (h.z+1) 0 0->nth tm 3=.nl->nth tm 4=.bool false->IQ Hg (fun v h2=>∃ v' h3,cG v h2=(v',h3)/\GrP env l v'/\HK h h3) .ret ⟨tm,⟨[],.no,none,8⟩⟩ (H2.set (h.z+1) (.box [.nl])):=fun tm H2 hk t2 t3 t4=>
  no _ _ ((k0.trans hk).set _ o_) (by rw[alb];have:=hk.z;omega) (aH _ _ _) t2 t3 t4
 obtain⟨v,H1,e1,⟨x,rfl⟩,k1⟩:=c24 hK n m 60 l H o_ hsz o_;obtain⟨v,H2,e2,⟨b2,rfl,hb2⟩,k2⟩:=afN (h:=H1) hK n m l o_ hsz o_ pt.bt;obtain⟨v,H3,e3,⟨b3,rfl,hb3⟩,k3⟩:=afM (h:=H2) hK n m env pe hn o_;obtain⟨v,H4,e4,⟨b4,rfl,hb4⟩,k4⟩:=c1025 (h:=H3) hK n m env l pe pt hn o_;have hs:∀ H2:AH,HK H H2->dQ (.ptr (h.z+1) 0 0) H2 1 (.agg [.nl])=some (H2.set (h.z+1) (.box [.nl])):=fun H2 k=>bp ((k.kw _ o_).trans g1) rfl rfl
 have q1:=k1;have q2:=k1.trans k2;have q3:=q2.trans k3;have q4:=q3.trans k4;have g01:=(q1.kw _ o_).trans g0;have g02:=(q2.kw _ o_).trans g0;have g03:=(q3.kw _ o_).trans g0;have g04:=(q4.kw _ o_).trans g0;obtain⟨x1,hx1⟩:∃ y,decide ((l.length:Int) > 4)=y:=⟨_,rfl⟩
 obtain⟨x2,hx2⟩:∃ y,decide (x > 60)=y:=⟨_,rfl⟩
 have hbx:=bN (h:=h) [.ls (env.map bW),.ls (l.map enc)] 2 rfl;unfold nK ahk;simp only[go_sem,simprocAttr,hbx,n1,<- hH,Ob,g0,L_];clear hH;cases x1
 case true=>
  simp only[go_sem,simprocAttr,hx1,hbz,hs _ (HK.refl H)];exact nof _ H (HK.refl H) k_ k_ k_
 cases x2
 case true=>
  simp only[go_sem,simprocAttr,hx1,g0,e1,hx2,hbz,hs _ q1];exact nof _ H1 q1 k_ k_ k_
 cases b2
 case false=>
  simp only[go_sem,simprocAttr,hx1,g0,e1,hx2,g01,e2,hbz,hs _ q2];exact nof _ H2 q2 k_ k_ k_
 cases b3
 case false=>
  simp only[go_sem,simprocAttr,hx1,g0,e1,hx2,g01,e2,g02,e3,hbz,hs _ q3];exact nof _ H3 q3 k_ k_ k_
 cases b4
 case false=>
  simp only[go_sem,simprocAttr,hx1,g0,e1,hx2,g01,e2,g02,e3,g03,e4,hbz,hs _ q4];exact nof _ H4 q4 k_ k_ k_
 have l4:l.length<=4:=by have:=of_decide_eq_false hx1;omega
 obtain⟨eg,htk⟩:=hb4 rfl;obtain⟨HA,hHA⟩:∃ HA:AH,HA=H4.new (.box [.nl]):=⟨_,rfl⟩
 have nq:=q4.z;have J0:ahp env l h.z H4.z 0 [] [] [] .nl .nl h HA:=by
  refine⟨?_,rfl,o_,by rw[hHA,ala];omega,?_,?_,by rw[hHA,aE],rfl,rfl,rfl,fp _ _ _ _,rfl,Wf.nil,by simp,by simp,by simp,by simp⟩
  ·rw[hHA];exact(k0.trans q4).add _
  ·rw[hHA,aL o_];exact g04
  ·rw[hHA,aL o_];exact(q4.kw _ o_).trans g1
 have gA1:=J0.g1;simp only[go_sem,simprocAttr,hx1,g0,e1,hx2,g01,e2,g02,e3,g03,e4,Oc,<- hHA,Od,Oe,gA1,L_];refine bB (I1008 env l h.z H4.z h) l.length o_ ⟨_,0,[],[],[],.nl,.nl,z_ _,rfl,J0,⟨k_,k_,k_,k_,k_,k_,k_⟩⟩ ?_;generalize H4.z=c;clear J0 hHA gA1 HA;rintro j fr H5 ⟨tm,p,gs,ts,ids,GV,V,hp,rfl,J,⟨t1,t2,t5,t6,t44,t45,t46⟩⟩;have g5:=J.g5;have gg2:=J.g2;have hc:=J.hc;have hn5:=J.hn;unfold Qt;simp only[go_sem,simprocAttr,t45,t46,Og];refine aX (fun hlt=>?_) (fun hge=>?_)
 ·have hlt:p<l.length:=o_;have hget:l[p]?=some l[p]:=a_ hlt;have htm:=m_ hget;have htok:=htk _ htm;have hbt:=pt.bt _ htm;revert hget htok hbt;generalize l[p]=t;intro hget htok hbt;have ha:=fun h=>aK bJ hget .i64 h
  have hld:=fun h=>cI (v:=enc t) (sz:=5) (hG t) (bJ t) h
  have hw:=aP p o_;obtain⟨HB,hHB⟩:∃ HB:AH,HB=(H5.new (.box [i_ 0,i_ 0,.str (bs []),.nl,.nl])).set H5.z (.box (aJ t)):=⟨_,rfl⟩
  have kB:HK H5 HB:=by rw[hHB];exact(HK.new _ _).set _ (e_ _)
  have nB:H5.z<HB.z:=by rw[hHB,alb,ala];omega
  have gB:HB.get H5.z=some (.box (aJ t)):=by rw[hHB,aH]
  have gB5:=(kB.kw _ hn5).trans g5;have hst:=du (aE H5 (.box [i_ 0,i_ 0,.str (bs []),.nl,.nl])) t;rw[<- hHB]at hst;clear hHB;unfold aJ at gB;obtain⟨v,H6,e6,⟨gs',r,e,rfl,hadd⟩,k6⟩:=c1026 (h:=HB) hK 4096 m t gs ts o_ htok.2 o_ htok.1 hbt J.wf J.bt (by have:=J.gl;have:=htok.2;omega);rw[<- jo (f:=26) (c:=[]) (ae (Zn J.gf J.gn HB) (ae (bR t HB) (aC _))) (ae (iA gs HB) (ae (bR t HB) (aC _)))]at e6;rw[aU t]at e6;obtain⟨HC,hHC⟩:∃ HC:AH,HC=(H6.new (.box [.nl])).set H6.z (.box [.ls (gs'.map aT)]):=⟨_,rfl⟩
  have kC:HK H6 HC:=by rw[hHC];exact(HK.new _ _).set _ (e_ _)
  have nC:H6.z<HC.z:=by rw[hHC,alb,ala];omega
  have gC:HC.get H6.z=some (.box [.ls (gs'.map aT)]):=by rw[hHC,aH]
  have hsc:=bp (aE H6 (.box [.nl])) (vs:=[.ls (gs'.map aT)]) (sz:=1) rfl rfl;rw[<- hHC]at hsc;clear hHC;have kBC:=(kB.trans k6).trans kC;have n6:=(kB.trans k6).z;simp only[go_sem,simprocAttr,Oh,t44,t46,ha,hld,hst,Oi,t5,gB5,gB,e6,hsc,Oj];by_cases qe:e=0
  case neg=>
   have de:decide (e=0)=false:=D_ qe;have hs2:=bp (vs:=[.nl]) ((kBC.kw _ o_).trans gg2) (sz:=1) rfl rfl;simp only[go_sem,simprocAttr,de,t2,hbz,hs2];exact no _ _ ((J.hk.trans kBC).set _ o_) (by rw[alb];have:=kBC.z;omega) (aH _ _ _) (q_ t2) k_ k_
  subst qe;obtain⟨ts',wf',g16,bt',⟨lg,hlg⟩,⟨lt,hlt'⟩,at',len'⟩:=hadd rfl;have oC:Own (c+1) 1 false HC V (ids.map AG.aO):=cd J.own kBC.z (fun k _ hk=>kBC.kw k hk);obtain⟨V',HP,eP,oP,nP,kP,_,_,kP2,_⟩:=dD (bytes:=8) (x:=i_ r) (z:=[i_ 0]) oC o_ rfl rfl rfl rfl (by rw[L_,J.il];omega) (by decide);have hnV:∀ g n,V≠.row H6.z g 1 0 n:=fun g n e=>by
   have:=Bz J.own _ _ _ e;omega
  have gP:HP.get H6.z=some (.box [.ls (gs'.map aT)]):=(kP2 _ nC hnV).trans gC;have gP5:HP.get c=some (.box [GV]):=(kP _ o_).trans ((kBC.kw _ hn5).trans g5);have hs5:=bp (vs:=[.ls (gs'.map aT)]) gP5 (sz:=1) rfl rfl;have bq1:=bU (show(AV.agg [.ls (gs'.map aT)]).free=true by simp only[AV.free,AV.ale,Bool.and_true];exact bE eQ gs');have bq2:=(kD J.own).1;have bq3:AV.beq (.clip [i_ r]) (.clip [i_ r])=true:=bU rfl;have bq4:=Bw .i64 r;simp only[go_sem,simprocAttr,gC,gP,t5,t6,mP,eP,hs5,bq1,t46,hw];refine⟨j-1,o_,_,p+1,gs',ts',ids++[r],.ls (gs'.map aT),V',o_,rfl,?_,⟨q_ t1,q_ t2,q_ t5,k_,q_ t44,q_ t45,k_⟩⟩;have nP':c<HP.z:=by have:=kBC.z;omega
  refine⟨?_,J.hb,hc,by rw[alb];omega,?_,?_,aH _ _ _,adz gs',ady gs',rfl,?_,by rw[List.length_append,J.il];rfl,wf',bt',?_,g16,?_⟩
  ·refine HK.set ⟨by have:=J.hk.z;have:=kBC.z;omega,fun k hk=>?_⟩ _ (by have:=J.hb;omega);rw[kP k (by have:=J.hb;omega),kBC.kw k (by have:=J.hk.z;omega),J.hk.kw k hk]
  ·rw[aB o_,kP _ o_,kBC.kw _ o_];exact J.g1
  ·rw[aB o_,kP _ o_,kBC.kw _ o_];exact gg2
  ·rw[List.map_append];exact cd oP (by rw[alb];exact e_ _) (fun k hk _=>aB o_)
  ·have:=J.gl;have:=htok.2;omega
  ·intro i hi;rcases List.mem_append.1 hi with hi|hi
   ·obtain⟨u,hu⟩:=J.at_ i hi;exact⟨u,by rw[hlt'];exact hu.app⟩
   ·rw[List.mem_singleton]at hi;subst hi;exact⟨t,at'⟩
 ·have hpl:p=l.length:=o_;have hs2:=bp (vs:=[GV]) gg2 (sz:=1) rfl rfl;have oF:Own (c+1) 1 false (H5.set (h.z+1) (.box [GV])) V (ids.map AG.aO):=cd J.own (by rw[alb];exact e_ _) (fun k hk _=>aB o_);obtain⟨HF,eF,nF,kF⟩:=rM oF;have hkF:HK h HF:=⟨by rw[nF,alb];exact J.hk.z,fun k hk=>by rw[kF k (by have:=J.hb;omega),aB (by have:=J.hb;omega)];exact J.hk.kw k hk⟩;have gF:=aH H5 (h.z+1) (.box [GV]);simp only[go_sem,simprocAttr,Of,t5,g5,t2,hs2];exact⟨rfl,rfl,.inr rfl,[.agg [GV],V,.bool true],by simp only[go_sem,simprocAttr,Hg,t2,t6,gF],_,_,bz (ae (Zn J.gf J.gn _) (ae eF (ae (aW _ _) (aC _)))),⟨gs,ids,true,rfl,fun _=>⟨eg,by have:=J.il;omega,ts,J.wf,J.g16,J.at_⟩⟩,hkF⟩
end
section
variable {K:aQ}{h:AH}
structure KA (K:aQ):Prop where
 aw:∀ h,K (.fn 9 [] []) [] .no h=some (.ret (.bool true),.no,h)
theorem c1009 (ka:KA K)(m:Nat)(h:AH):cS K m (.fn 9 [] []) [] .no h=some (.ret (.bool true),.no,h):=
 rV (aC _) (ka.aw h) (aS (by intro l e;cases e) (aW _ _)) _
structure Hu (env:List DV)(l:List T)(b c:Nat)(gs:List NV)(h0 h:AH):Prop where
 hk:HK h0 h
 hb:h0.z<=b
 hn:b<h.z
 hc:h0.z<=c
 hn':c<h.z
 g1:h.get b=some (.box [.ls (env.map bW),.ls (l.map enc)])
 g3:h.get c=some (.box [.ls (gs.map aT)])
theorem Hu.up {env:List DV}{l:List T}{b c:Nat}{gs:List NV}{h0 h h':AH}(q:Hu env l b c gs h0 h)(k:HK h h'):Hu env l b c gs h0 h':=
 ⟨q.hk.trans k,q.hb,by have:=k.z;have:=q.hn;omega,q.hc,by have:=k.z;have:=q.hn';omega,(k.kw _ q.hn).trans q.g1,(k.kw _ q.hn').trans q.g3⟩
def ahs (env:List DV)(l:List T)(b c:Nat)(gs:List NV)(ids:List Int)(h0:AH)(j:Nat)(fr:AF)(h:AH):Prop:=∃ tm p,p+j=ids.length/\fr=⟨tm,⟨[],.no,none,7⟩⟩/\Hu env l b c gs h0 h/\nth tm 1=.ptr b 0 0/\nth tm 3=.ptr c 0 0/\nth tm 23=.ls (ids.map AG.aO)/\nth tm 24=i_ (ids.length:Int)/\nth tm 25=i_ (p:Int)
theorem abU (hK:aZ K)(km:KM K)(kg:KG K)(ks:KS K)(ka:KA K)(n m:Nat)(env:List DV)(l:List T)(pe:PE n env)(pt:PT n l)(hn:n<=9000000)(hm:100000020<=m)(h:AH):
  R (cS K m) 1000000000000 [.code aba] (IQ TH fun v _=>v=.bool true) .normal ⟨cT [nK env l],⟨[],.no,none,7⟩⟩ h:=by
 have ret:∀ (tm:Tm) (H:AH),HK h H->nth tm 2=.bool true->IQ TH (fun v _=>v=.bool true) .ret ⟨tm,⟨[],.no,none,7⟩⟩ H:=fun tm H hk t2=>
  ⟨rfl,rfl,.inr rfl,[.bool true],by simp only[go_sem,simprocAttr,TH,t2],rfl⟩
 obtain⟨H,hH⟩:∃ H:AH,H=h.new (.box [.ls (env.map bW),.ls (l.map enc)]):=⟨_,rfl⟩
 have k0:HK h H:=by rw[hH];exact HK.new _ _
 have n0:H.z=h.z+1:=by rw[hH,ala]
 have g0:H.get h.z=some (.box [.ls (env.map bW),.ls (l.map enc)]):=by rw[hH,aE]
 have hbx:=bN (h:=h) [.ls (env.map bW),.ls (l.map enc)] 2 rfl;obtain⟨v,H1,e1,⟨gs,ids,ok,rfl,hok⟩,k1⟩:=c1008 (h:=H) hK n m env l pe pt hn o_;obtain⟨HA,hHA⟩:∃ HA:AH,HA=(H1.new (.box [.nl])).set H1.z (.box [.ls (gs.map aT)]):=⟨_,rfl⟩
 have kA:HK H1 HA:=by rw[hHA];exact(HK.new _ _).set _ (e_ _)
 have nA:H1.z<HA.z:=by rw[hHA,alb,ala];omega
 have gA:HA.get H1.z=some (.box [.ls (gs.map aT)]):=by rw[hHA,aH]
 have hst:=bp (aE H1 (.box [.nl])) (vs:=[.ls (gs.map aT)]) (sz:=1) rfl rfl;rw[<- hHA]at hst;clear hHA;have n1:=k1.z;have nA':=kA.z;have J0:Hu env l h.z H1.z gs h HA:=⟨(k0.trans k1).trans kA,e_ _,o_,o_,nA,(kA.kw _ o_).trans ((k1.kw _ o_).trans g0),gA⟩;have e9:=c1009 ka m;unfold nK at e1;unfold nK aba;simp only[go_sem,simprocAttr,hbx,<- hH,Ei,g0,e1,hst,Ej];clear hH hbx;cases ok with
 |false=>
  simp only[go_sem,simprocAttr,e9];exact ret _ _ J0.hk k_
 |true=>
  obtain⟨eg,hil,ts,wf,g16,hat⟩:=hok rfl;have wg:=wf.wg g16;simp only[go_sem,simprocAttr,Ol,L_];refine bB (ahs env l h.z H1.z gs ids h) ids.length o_ ⟨_,0,z_ _,rfl,J0,k_,k_,k_,k_,k_⟩ ?_;generalize H1.z=c;clear J0 hst gA nA kA nA' HA;rintro j fr H2 ⟨tm,p,hp,rfl,J,t1,t3,t23,t24,t25⟩;have q1:=J.g1;have q3:=J.g3;unfold Qu;simp only[go_sem,simprocAttr,t24,t25,On];refine aX (fun hlt=>?_) (fun hge=>?_)
  ·have hlt:p<ids.length:=o_;have hget:ids[p]?=some ids[p]:=a_ hlt;obtain⟨t,ht⟩:=hat _ (m_ hget);revert hget ht;generalize ids[p]=id;intro hget ht;have ha:=fun h=>aK (f:=AG.aO) (sz:=1) (fun _=>rfl) hget .i64 h
   have ele:=cu id;have hw:=aP p o_;simp only[AG.aO]at ha ele;have next:∀ (tm:Tm) (H:AH),HK H2 H->nth tm 1=.ptr h.z 0 0->nth tm 3=.ptr c 0 0->nth tm 23=.ls (ids.map AG.aO)->nth tm 24=i_ (ids.length:Int)->nth tm 25=i_ ((p+1:Nat):Int)->∃ j',j'<j/\ahs env l h.z c gs ids h j' ⟨tm,⟨[],.no,none,7⟩⟩ H:=
    fun tm H k a1 a3 a23 a24 a25=>⟨j-1,o_,tm,p+1,o_,rfl,J.up k,a1,a3,a23,a24,a25⟩
   obtain⟨v,H3,e3,k3,q⟩:=afP (h:=H2) hK km kg ks eg m o_ wg id;rcases q with⟨q,_⟩|rfl|⟨gs',ts',r,t',u,rfl,wg',⟨lg,rfl⟩,⟨lt,rfl⟩,at1,at2,rl⟩
   ·have:=ht.lt;have:=wf.len;omega
   ·obtain⟨HB,hHB⟩:∃ HB:AH,HB=(H3.new (.box [.nl])).set H3.z (.box [.ls []]):=⟨_,rfl⟩
    have kB:HK H3 HB:=by rw[hHB];exact(HK.new _ _).set _ (e_ _)
    have hsb:=bp (aE H3 (.box [.nl])) (vs:=[.ls []]) (sz:=1) rfl rfl;rw[<- hHB]at hsb;clear hHB;simp only[go_sem,simprocAttr,vH,t1,t3,t23,t25,ha,ele,vI,q1,q3,e3,hsb,vJ,hw];exact next _ _ (k3.trans kB) (q_ t1) (q_ t3) (q_ t23) (q_ t24) k_
   ·obtain⟨HB,hHB⟩:∃ HB:AH,HB=(H3.new (.box [.nl])).set H3.z (.box [.ls ((gs++lg).map aT)]):=⟨_,rfl⟩
    have kB:HK H3 HB:=by rw[hHB];exact(HK.new _ _).set _ (e_ _)
    have nB:H3.z<HB.z:=by rw[hHB,alb,ala];omega
    have gB:HB.get H3.z=some (.box [.ls ((gs++lg).map aT)]):=by rw[hHB,aH]
    have hsb:=bp (aE H3 (.box [.nl])) (vs:=[.ls ((gs++lg).map aT)]) (sz:=1) rfl rfl;rw[<- hHB]at hsb;clear hHB;have J3:=J.up (k3.trans kB);have b3:=J3.g3;obtain⟨v,H4,e4,rfl,k4⟩:=afO (h:=HB) hK m o_ wg';have gB4:=(k4.kw _ nB).trans gB;have J4:=J3.up k4;have r0:0<=r:=at2.1;have r1:r<((gs++lg).length:Int):=by
     have h1:=at2.lt;have h2:(ts++lt).length=(gs++lg).length:=wg'.len;omega
    have d0:decide (r<0)=false:=d_;have d1:decide (r≥((gs++lg).length:Int))=false:=d_;obtain⟨v,H5,e5,k5,q⟩:=afP (h:=H4) hK km kg ks eg m o_ wg' r;have gB5:=(k5.kw _ (by have:=k4.z;omega)).trans gB4;have J5:=J4.up k5;have p4:=J4.g1;rcases q with⟨q,_⟩|rfl|⟨gs2,ts2,r2,t2',u2,rfl,wg2,⟨lg2,rfl⟩,⟨lt2,rfl⟩,at3,at4,rl2⟩
    ·omega
    ·obtain⟨HC,hHC⟩:∃ HC:AH,HC=(H5.new (.box [.nl])).set H5.z (.box [.ls []]):=⟨_,rfl⟩
     have kC:HK H5 HC:=by rw[hHC];exact(HK.new _ _).set _ (e_ _)
     have hsc:=bp (aE H5 (.box [.nl])) (vs:=[.ls []]) (sz:=1) rfl rfl;rw[<- hHC]at hsc;clear hHC;simp only[go_sem,simprocAttr,vH,t1,t3,t23,t25,ha,ele,vI,q1,q3,e3,hsb,vJ,Ba,b3,gB,e4,d0,gB4,L_,d1,Bb,p4,e5,hsc,Bc,hw];exact next _ _ ((((k3.trans kB).trans k4).trans k5).trans kC) (q_ t1) (q_ t3) (q_ t23) (q_ t24) k_
    ·obtain⟨HC,hHC⟩:∃ HC:AH,HC=(H5.new (.box [.nl])).set H5.z (.box [.ls (((gs++lg)++lg2).map aT)]):=⟨_,rfl⟩
     have kC:HK H5 HC:=by rw[hHC];exact(HK.new _ _).set _ (e_ _)
     have gC:HC.get H5.z=some (.box [.ls (((gs++lg)++lg2).map aT)]):=by rw[hHC,aH]
     have hsc:=bp (aE H5 (.box [.nl])) (vs:=[.ls (((gs++lg)++lg2).map aT)]) (sz:=1) rfl rfl;rw[<- hHC]at hsc;clear hHC;have gBC:=(kC.kw _ (by have:=k4.z;have:=k5.z;omega)).trans gB5;obtain⟨v,H6,e6,rfl,k6⟩:=afO (h:=HC) hK m o_ wg2;have hu:t2'=u:=at3.det at2;subst hu;obtain⟨n1,hn1⟩:=rl;obtain⟨n2,hn2⟩:=rl2;have hu2:u2=t2':=Vj hn1 hn2;subst hu2;have hr:r2=r:=At.inj wg2.nd at4 at2.app;have dr:decide (r2=r)=true:=T_ hr;simp only[go_sem,simprocAttr,vH,t1,t3,t23,t25,ha,ele,vI,q1,q3,e3,hsb,vJ,Ba,b3,gB,e4,d0,gB4,L_,d1,Bb,p4,e5,hsc,Bc,dr,gBC,gC,e6,hw];exact next _ _ (((((k3.trans kB).trans k4).trans k5).trans kC).trans k6) (q_ t1) (q_ t3) (q_ t23) (q_ t24) k_
  ·simp only[go_sem,simprocAttr,Om,e9];exact ret _ _ J.hk k_
end
