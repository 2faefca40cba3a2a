/- MachineKeeps: guards: ref50.Check of a graph in order (no condition). -/
import Derived.Test.YtocdlbblemjabaaGreatDoorBs
namespace Go.Proofs.YtocdlbblemjabaaGreatDoor
open Go.AG Go.AG.MK
theorem NOK.bn {n:NV}(q:NOK n):BN n:=by
 have b:=q.bt;refine⟨b.ln,b.ls,?_⟩;have:=q.nd.K;unfold dW at this;split at this
 ·omega
 ·split at this
  ·omega
  ·split at this<;>omega
section
variable {K:aQ}{h:AH}
structure zq (gs:List NV)(b:Nat)(h0 h:AH):Prop where
 hk:HK h0 h
 hn:b<h.z
 hg:h.get b=some (.box [.ls (gs.map aT)])
theorem zq.up {gs:List NV}{b:Nat}{h0 h h':AH}(q:zq gs b h0 h)(k:HK h h'):zq gs b h0 h':=⟨q.hk.trans k,by have:=k.z;have:=q.hn;omega,(k.kw _ q.hn).trans q.hg⟩
def TJ (n:NV):List AV:=[i_ n.kind,i_ n.idx,.str n.name,.ls (n.L.map ba),.ls (n.K.map AG.aO)]
def akJ (gs:List NV)(b:Nat)(h0:AH)(j:Nat)(fr:AF)(h:AH):Prop:=∃ tm i,i+j=gs.length/\fr=⟨tm,⟨[],.no,none,40⟩⟩/\zq gs b h0 h/\nth tm 1=.ptr b 0 0/\nth tm 3=i_ (i:Int)
def akI (gs:List NV)(b c i:Nat)(n:NV)(h0:AH)(j:Nat)(fr:AF)(h:AH):Prop:=∃ tm p,p+j=n.K.length/\fr=⟨tm,⟨[],.no,none,40⟩⟩/\zq gs b h0 h/\c<h.z/\h.get c=some (.box (TJ n))/\nth tm 1=.ptr b 0 0/\nth tm 3=i_ (i:Int)/\nth tm 4=.ptr c 0 0/\nth tm 5=i_ (p:Int)
def akH (gs:List NV)(b c i:Nat)(n:NV)(h0:AH)(j:Nat)(fr:AF)(h:AH):Prop:=∃ tm p,p+j=i/\fr=⟨tm,⟨[],.no,none,40⟩⟩/\zq gs b h0 h/\c<h.z/\h.get c=some (.box (TJ n))/\nth tm 1=.ptr b 0 0/\nth tm 3=i_ (i:Int)/\nth tm 4=.ptr c 0 0/\nth tm 6=i_ (p:Int)
theorem c1040 (hK:aZ K)(m:Nat)(hm:200<=m){gs:List NV}{ts:List T}(g:Wg (Mst gs ts)):
  ∃ v h',cS K m (.fn 40 [] []) [.agg [.ls (gs.map aT)]] .no h=some (.ret v,.no,h')/\v=i_ 0/\HK h h':=by
 obtain⟨m,rfl⟩:∃ k,m=k+1:=⟨m-1,o_⟩
 refine bh hK ajX (ae (iA gs h) (aC _)) ?_;have most:gs.length<=65536:=g.most;have hb:∀ (g:List NV) (H:AH),dB H 1 (.agg [.ls (g.map aT)])=.val (.ptr H.z 0 0) (H.new (.box [.ls (g.map aT)])):=fun g H=>bN _ 1 rfl
 obtain⟨H,hH⟩:∃ H:AH,H=h.new (.box [.ls (gs.map aT)]):=⟨_,rfl⟩
 have hh:zq gs h.z h H:=by rw[hH];exact⟨HK.new _ _,by rw[ala];omega,aE _ _⟩
 have g0:=hh.hg;have d3:decide ((gs.length:Int) > 65536)=false:=d_;unfold ag8;simp only[go_sem,simprocAttr,hb];rw[<- hH];clear hH;simp only[go_sem,simprocAttr,Ec,g0,L_,d3,Ed];refine bB (akJ gs h.z h) gs.length o_ ⟨_,0,z_ _,rfl,hh,k_,k_⟩ ?_;clear hh g0 H;rintro j fr H2 ⟨tm,i,hi,rfl,hh,t1,t3⟩;have g2:=hh.hg;unfold Qo;simp only[go_sem,simprocAttr,t1,t3,g2,L_];refine aX (fun hlt=>?_) (fun hge=>?_)
 ·have hlt:i<gs.length:=o_;have hget:gs[i]?=some gs[i]:=a_ hlt;have ha:=fun h=>aK lj hget .i64 h
  have hnot:=g.notin hget;obtain⟨kts,ht,lk,lt⟩:=g.node i _ hget;have nok:=g.nok (m_ hget);revert hget ha hnot ht lk lt nok;generalize gs[i]=n;intro hget ha hnot ht lk lt nok;have hw:=aP i o_;have hl5:∀ h:AH,cj (.vptr (aT n)) h true 5=some (aT n):=fun h=>cI rfl rfl h
  have hnv:aT n=.agg [i_ n.kind,i_ n.idx,.str n.name,.ls (n.L.map ba),.ls (n.K.map AG.aO)]:=rfl;obtain⟨H3,hH3⟩:∃ H3:AH,H3=(H2.new (.box [i_ 0,i_ 0,.str (bs []),.nl,.nl])).set H2.z (.box [i_ n.kind,i_ n.idx,.str n.name,.ls (n.L.map ba),.ls (n.K.map AG.aO)]):=⟨_,rfl⟩
  have k3:HK H2 H3:=by rw[hH3];exact HK.new_set _ _ _
  have n3:H3.z=H2.z+1:=by rw[hH3,alb,ala]
  have g4:H3.get H2.z=some (.box [i_ n.kind,i_ n.idx,.str n.name,.ls (n.L.map ba),.ls (n.K.map AG.aO)]):=by rw[hH3,aH]
  obtain⟨v,H4,e4,rfl,k4⟩:=c1078 (h:=H3) hK m o_ nok;rw[hnv]at hl5 e4 ha;have g44:=(k4.kw _ o_).trans g4;simp only[go_sem,simprocAttr,Nk,t1,t3,g2,ha,hl5];rw[<- hH3];clear hH3;simp only[go_sem,simprocAttr,Nl,g4,e4,Nn];have nb:=nok.bn.ks;refine bB (akI gs h.z H2.z i n h) n.K.length o_ ⟨_,0,z_ _,rfl,(hh.up k3).up k4,by have:=k4.z;omega,g44,q_ t1,q_ t3,k_,k_⟩ ?_;clear t1 t3 tm g44 e4 k4 H4 g4 g2;rintro j2 fr H4 ⟨tm,p,hp,rfl,hh4,hc4,gc,t1,t3,t4,t5⟩;unfold TJ at gc;unfold Qq;simp only[go_sem,simprocAttr,t4,t5,gc,L_];refine aX (fun hlt2=>?_) (fun hge2=>?_)
  ·have hlt2:p<n.K.length:=o_;have hgk:n.K[p]?=some n.K[p]:=a_ hlt2;have hak:=fun h=>aK (f:=AG.aO) (sz:=1) (fun _=>rfl) hgk .i64 h
   have elk:=cu n.K[p];simp only[AG.aO]at elk;have hwp:=aP p o_;obtain⟨tt,_,at_⟩:=lk.get hgk;have h0:=at_.1;have h1:=lt _ (m_ hgk);have e1:decide (n.K[p]<0)=false:=d_;have e2:decide (n.K[p]≥(i:Int))=false:=d_;simp only[go_sem,simprocAttr,Nr,t3,t4,t5,gc,hak,AG.aO,elk,e1,e2,hwp];exact⟨j2-1,o_,_,p+1,o_,rfl,hh4,hc4,gc,q_ t1,q_ t3,q_ t4,k_⟩
  ·simp only[go_sem,simprocAttr,No];refine bB (akH gs h.z H2.z i n h) i o_ ⟨_,0,z_ _,rfl,hh4,hc4,gc,q_ t1,q_ t3,q_ t4,k_⟩ ?_;clear t1 t3 t4 t5 tm gc hc4 hh4 H4;rintro j3 fr H4 ⟨tm,p,hp,rfl,hh4,hc4,gc,t1,t3,t4,t6⟩;have gg:=hh4.hg;unfold Qp;simp only[go_sem,simprocAttr,t3,t6];refine aX (fun hlt3=>?_) (fun hge3=>?_)
   ·have hlt3:p<i:=o_;have hgp:gs[p]?=some (gs[p]'o_):=a_ o_;have hap:=fun h=>aK lj hgp .i64 h
    have hnp:gs[p]'o_≠n:=fun q=>hnot (m_ (i:=p) (by rw[List.getElem?_take,P_ hlt3,hgp,q]))
    have nokp:=g.nok (m_ hgp);revert hgp hap hnp nokp;generalize gs[p]'o_=x;intro hgp hap hnp nokp;have hwp:=aP p o_;have hl6:∀ h:AH,cj (.vptr (aT x)) h true 5=some (aT x):=fun h=>cI rfl rfl h
    obtain⟨v,H5,e5,⟨b,rfl,hbb⟩,k5⟩:=aa3 (h:=H4) hK (m-3) x n nokp.bn nok.bn;rw[show m-3+3=m by omega]at e5;have hxv:∀ x:NV,aT x=.agg [i_ x.kind,i_ x.idx,.str x.name,.ls (x.L.map ba),.ls (x.K.map AG.aO)]:=fun _=>rfl
    have bqn:AV.beq (aT x) (aT x)=true:=bU (eQ _);have bqm:AV.beq (aT n) (aT n)=true:=bU (eQ _);rw[hxv x]at hl6 e5 hap bqn;rw[hxv n]at e5 bqm;have hbf:b=false:=by
     cases b with
     |true=>exact absurd (hbb.1 rfl) hnp
     |false=>rfl
    subst hbf;unfold TJ at gc;simp only[go_sem,simprocAttr,Np,t1,t4,t6,gg,gc,hap,hl6,e5,hwp];exact⟨j3-1,o_,_,p+1,o_,rfl,hh4.up k5,by have:=k5.z;omega,(k5.kw _ hc4).trans gc,q_ t1,q_ t3,q_ t4,k_⟩
   ·simp only[go_sem,simprocAttr,t3,hw];exact⟨j-1,o_,_,i+1,o_,rfl,hh4,q_ t1,k_⟩
 ·simp only[go_sem,simprocAttr,Nj];exact⟨rfl,rfl,.inr rfl,[i_ 0],by simp only[go_sem,simprocAttr,afi],i_ 0,_,aS (by intro l e;cases e) (aG _ _ _),rfl,hh.hk⟩
end
theorem QV (h:AH)(l:List NV){n:Nat}(hn:n<=l.length):sf h 5 (.ls (l.map aT)) (i_ (n:Int))=some (.ls ((l.take n).map aT),h):=by
 show aD (some (len (l.map aT))) (fun m=>aD (lB (i_ (n:Int)) m) fun hb=>aD (some 0) fun lo=>zi (.ls (l.map aT)) h 5 lo hb)=_;rw[aI,bH,L_];have e:lB (i_ (n:Int)) l.length=some n:=by
  show aD (some n) (fun m=>cond (Nat.ble m l.length) (some m) none)=_;rw[aI,fh hn];rfl
 rw[e,aI,aI];show cond (ew 5 (l.map aT)) (some (AV.ls (tke (n-0) (drp 0 (l.map aT))),h)) none=_;rw[oU lj,iB,fa,List.drop_zero,Nat.sub_zero,List.map_take];rfl
section
variable {K:aQ}{h:AH}
theorem afO (hK:aZ K)(m:Nat)(hm:210<=m){gs l:List NV}{ts:List T}(g:Wg (Mst (gs++l) ts)):
  ∃ v h',cS K m (.fn 19 [] []) [.agg [.ls (gs.map aT)],.agg [.ls ((gs++l).map aT)]] .no h=some (.ret v,.no,h')/\v=.bool true/\HK h h':=by
 obtain⟨m,rfl⟩:∃ k,m=k+1:=⟨m-1,o_⟩
 refine bh hK aj6 (ae (iA gs h) (ae (iA (gs++l) h) (aC _))) ?_;have most:(gs++l).length<=65536:=g.most;have hll:(gs++l).length=gs.length+l.length:=List.length_append;have hb:∀ (g:List NV) (H:AH),dB H 1 (.agg [.ls (g.map aT)])=.val (.ptr H.z 0 0) (H.new (.box [.ls (g.map aT)])):=fun g H=>bN _ 1 rfl
 obtain⟨H,hH⟩:∃ H:AH,H=(h.new (.box [.ls (gs.map aT)])).new (.box [.ls ((gs++l).map aT)]):=⟨_,rfl⟩
 have n1:=ala h (.box [.ls (gs.map aT)]);have k0:HK h H:=by rw[hH];exact(HK.new _ _).add _
 have n0:H.z=h.z+2:=by rw[hH,ala,n1]
 have g2:H.get h.z=some (.box [.ls (gs.map aT)]):=by rw[hH,aL o_,aE]
 have g3:H.get (h.z+1)=some (.box [.ls ((gs++l).map aT)]):=by rw[hH,<- n1,aE]
 obtain⟨v,H1,e1,rfl,k1⟩:=c1040 (h:=H) hK m o_ g;have g21:=(k1.kw _ o_).trans g2;have g31:=(k1.kw _ o_).trans g3;obtain⟨v,H2,e2,rfl,k2⟩:=c1041 (h:=H1) hK (m-4) gs o_ (fun x hx=>(g.nok (show x∈(Mst (gs++l) ts).ns from List.mem_append_left _ hx)).bn);rw[show m-4+4=m by omega]at e2;have d1:decide (((gs++l).length:Int)<(gs.length:Int))=false:=d_;have d2:decide ((0:Int)=0)=true:=rfl;unfold ahh;simp only[go_sem,simprocAttr,hb,n1];rw[<- hH];clear hH;simp only[go_sem,simprocAttr,NY,g2,g3,L_,d1,e1,NZ,g21,g31];have hsl:sf H1 5 (.ls ((gs++l).map aT)) (i_ (gs.length:Int))=some (.ls (gs.map aT),H1):=by
  have:=QV H1 (gs++l) (n:=gs.length) o_;rwa[List.take_left]at this
 have hbd:∀ H:AH,bT H [.nl] [(0,1,.ls (gs.map aT))]=.val (.agg [.ls (gs.map aT)]) H:=fun _=>rfl
 have bqg:AV.beq (.ls (gs.map aT)) (.ls (gs.map aT))=true:=bU (by simp only[AV.free];exact bE eQ gs);have bqh:AV.beq (.ls ((gs++l).map aT)) (.ls ((gs++l).map aT))=true:=bU (by simp only[AV.free];exact bE eQ (gs++l));have bqa:AV.beq (.agg [.ls (gs.map aT)]) (.agg [.ls (gs.map aT)])=true:=bU (by simp only[AV.free,AV.ale,Bool.and_true];exact bE eQ gs);have g22:=(k2.kw _ (by have:=k1.z;omega)).trans g21;have g32:=(k2.kw _ (by have:=k1.z;omega)).trans g31;simp only[go_sem,simprocAttr,hsl,hbd,e2];exact⟨rfl,rfl,.inr rfl,[.bool true],by simp only[go_sem,simprocAttr,afk],.bool true,_,aS (by intro l e;cases e) (aW _ _),rfl,(k0.trans k1).trans k2⟩
end
section
variable {K:aQ}{h:AH}
theorem zn (hK:aZ K)(n m:Nat)(t:T)(hm:n+1<=m)(hs:size t<=n)(hn:n<=10000000):
  ∃ v h',cS K m (.fn 129 [] []) [enc t] .no h=some (.ret v,.no,h')/\(∃ b,v=.bool b/\(b=true->size t<=400))/\HK h h':=by
 obtain⟨m,rfl⟩:∃ k,m=k+1:=⟨m-1,o_⟩
 refine bh hK ajl (ae (bR t h) (aC _)) ?_;obtain⟨H,hH⟩:∃ H:AH,H=h.new (.box (aJ t)):=⟨_,rfl⟩
 have k0:HK h H:=by rw[hH];exact HK.new _ _
 have n0:H.z=h.z+1:=by rw[hH,ala]
 have g0:H.get h.z=some (.box (aJ t)):=by rw[hH,aE]
 obtain⟨v,H1,e1,rfl,k1⟩:=c28 hK n m t H o_ hs o_;obtain⟨v,H2,e2,⟨e,rfl⟩,k2⟩:=c29 hK n m t H1 o_ hs o_;have g1:=(k1.kw _ o_).trans g0;rw[aU t]at e1 e2;unfold aJ at hH g0 g1;rw[aU t];unfold agw;simp only[go_sem,simprocAttr];rw[<- hH];clear hH;by_cases a1:(size t:Int)<=400
 ·have d1:decide ((size t:Int)<=400)=true:=T_ a1;simp only[go_sem,simprocAttr,As,g0,e1,d1,g1,e2];exact⟨rfl,rfl,.inr rfl,[.bool (decide (e<=150))],by simp only[go_sem,simprocAttr,aaw],.bool (decide (e<=150)),_,aS (by intro l e;cases e) (aW _ _),⟨_,rfl,fun _=>by omega⟩,(k0.trans k1).trans k2⟩
 ·have d1:decide ((size t:Int)<=400)=false:=D_ a1;simp only[go_sem,simprocAttr,As,g0,e1,d1];exact⟨rfl,rfl,.inr rfl,[.bool false],by simp only[go_sem,simprocAttr,aaw],.bool false,_,aS (by intro l e;cases e) (aW _ _),⟨_,rfl,by simp⟩,k0.trans k1⟩
def I11 (x y:T)(b:Nat)(h0:AH)(j:Nat)(fr:AF)(h:AH):Prop:=∃ tm p,p+j=x.K.length/\fr=⟨tm,⟨[],.no,none,28⟩⟩/\HK h0 h/\b+1<h.z/\h.get b=some (.box (aJ x))/\h.get (b+1)=some (.box (aJ y))/\nth tm 2=.ptr b 0 0/\nth tm 3=.ptr (b+1) 0 0/\nth tm 5=i_ (p:Int)/\∀ (i:Nat),i<p->x.K[i]?=y.K[i]?
theorem c11 (hK:aZ K):∀ (n m:Nat) (x y:T) (h:AH),n+5<=m->size x<=n->n<=10000000->size y<=10000000->BT x->BT y->
  ∃ v h',cS K m (.fn 28 [] []) [enc x,enc y] .no h=some (.ret v,.no,h')/\(∃ b,v=.bool b/\(b=true->x=y))/\HK h h':=by
 intro n;induction n with
 |zero=>intro m x y h _ hs;have:=bZ x;omega
 |succ n ih=>
  intro m x y h hm hs hn hy bx by_;obtain⟨m,rfl⟩:∃ k,m=k+1:=⟨m-1,o_⟩
  have hsk:=eA x;have hlk:=bP x.K;have hsy:=eA y;have hly:=bP y.K;refine bh hK cf11 (ae (bR x h) (ae (bR y h) (aC _))) ?_;obtain⟨H,hH⟩:∃ H:AH,H=(h.new (.box (aJ x))).new (.box (aJ y)):=⟨_,rfl⟩
  have n1:=ala h (.box (aJ x));have k0:HK h H:=by rw[hH];exact(HK.new _ _).add _
  have n0:H.z=h.z+2:=by rw[hH,ala,n1]
  have g2:H.get h.z=some (.box (aJ x)):=by rw[hH,aL o_,aE]
  have g3:H.get (h.z+1)=some (.box (aJ y)):=by rw[hH,<- n1,aE]
  have ret:∀ (tm:Tm) (b:Bool) (H:AH),HK h H->nth tm 4=.bool b->(b=true->x=y)->IQ r11 (fun v h2=>∃ v' h3,cG v h2=(v',h3)/\(∃ b,v'=.bool b/\(b=true->x=y))/\HK h h3) .ret ⟨tm,⟨[],.no,none,28⟩⟩ H:=fun tm b H hk t4 hb=>
   ⟨rfl,rfl,.inr rfl,[.bool b],by simp only[go_sem,simprocAttr,r11,t4],.bool b,_,aS (by intro l e;cases e) (aW _ _),⟨_,rfl,hb⟩,hk⟩
  obtain⟨v,H3,e3,⟨b3,rfl,hb3⟩,k3⟩:=c47 (h:=H) hK (m-2) x.L y.L bx.ln by_.ln bx.ls by_.ls;rw[show m-2+2=m by omega]at e3;have g23':=(k3.kw _ o_).trans g2;have g33':=(k3.kw _ o_).trans g3;have g23:=g23';have g33:=g33';have nx3:=k3.z;unfold aJ at hH g2 g3 g23 g33;rw[aU x,aU y];unfold b11;simp only[go_sem,simprocAttr,ala];rw[<- hH];clear hH;by_cases a1:x.kind=y.kind
  case neg=>
   have d1:decide (x.kind=y.kind)=false:=D_ a1;simp only[go_sem,simprocAttr,zg,g2,g3,d1];exact ret _ false H k0 k_ (by simp)
  have d1:decide (x.kind=y.kind)=true:=T_ a1;by_cases a2:x.idx=y.idx
  case neg=>
   have d2:decide (x.idx=y.idx)=false:=D_ a2;simp only[go_sem,simprocAttr,zg,g2,g3,d1,d2];exact ret _ false H k0 k_ (by simp)
  have d2:decide (x.idx=y.idx)=true:=T_ a2;by_cases a3:x.name=y.name
  case neg=>
   have d3:decide (x.name=y.name)=false:=D_ a3;simp only[go_sem,simprocAttr,zg,g2,g3,d1,d2,db,d3];exact ret _ false H k0 k_ (by simp)
  have d3:decide (x.name=y.name)=true:=T_ a3;cases b3 with
  |false=>
   simp only[go_sem,simprocAttr,zg,g2,g3,d1,d2,db,d3,e3];exact ret _ false H3 (k0.trans k3) k_ (by simp)
  |true=>
   have hls:=hb3.1 rfl;by_cases a4:(x.K.length:Int)=(y.K.length:Int)
   case neg=>
    have d4:decide ((x.K.length:Int)=(y.K.length:Int))=false:=D_ a4;simp only[go_sem,simprocAttr,zg,g2,g3,d1,d2,db,d3,e3,g23,g33,L_,d4];exact ret _ false H3 (k0.trans k3) k_ (by simp)
   have d4:decide ((x.K.length:Int)=(y.K.length:Int))=true:=T_ a4;simp only[go_sem,simprocAttr,zg,g2,g3,d1,d2,db,d3,e3,g23,g33,L_,d4,aeV];refine bB (I11 x y h.z h) x.K.length o_ ⟨_,0,z_ _,rfl,k0.trans k3,o_,g23',g33',k_,k_,k_,fun i hi=>by omega⟩ ?_;rintro j fr H4 ⟨tm,p,hp,rfl,hk4,hn4,q2',q3',t2,t3,t5,pre⟩;have q2:=q2';have q3:=q3';unfold aJ at q2 q3;unfold af3;simp only[go_sem,simprocAttr,t2,t5,q2,L_];refine aX (fun hlt=>?_) (fun hge=>?_)
   ·have hlt:p<x.K.length:=o_;have hgx:x.K[p]?=some x.K[p]:=a_ hlt;have hgy:y.K[p]?=some (y.K[p]'o_):=a_ o_;have hax:=fun h=>aK bJ hgx .i64 h
    have hay:=fun h=>aK bJ hgy .i64 h
    have elx:=dN x.K[p];have ely:=dN (y.K[p]'o_);have hsx:=cL (m_ hgx);have hsy2:=cL (m_ hgy);have bqx:=Bx x.K[p];have hw:=aP p o_;obtain⟨v,H5,e5,⟨b5,rfl,hb5⟩,k5⟩:=ih m x.K[p] (y.K[p]'o_) H4 o_ o_ o_ o_ (bx.kid _ (m_ hgx)) (by_.kid _ (m_ hgy));simp only[go_sem,simprocAttr,aeX,t2,t3,t5,q2,q3,hax,hay,elx,ely,e5];cases b5 with
    |false=>
     simp only[go_sem,simprocAttr];exact ret _ false H5 (hk4.trans k5) k_ (by simp)
    |true=>
     simp only[go_sem,simprocAttr,t5,hw];refine⟨j-1,o_,_,p+1,o_,rfl,hk4.trans k5,by have:=k5.z;omega,(k5.kw _ o_).trans q2',(k5.kw _ o_).trans q3',q_ t2,q_ t3,k_,fun i hi=>?_⟩;by_cases q:i=p
     ·subst q;rw[hgx,hgy,hb5 rfl]
     ·exact pre i o_
   ·have hpp:p=x.K.length:=o_;subst hpp;simp only[go_sem,simprocAttr,aeW];refine ret _ true H4 hk4 k_ fun _=>?_
    have hks:=jJ o_ pre;cases x;cases y;simp only[T.kind,T.idx,T.name,T.L,T.K]at *;subst a1 a2 a3 hls hks;rfl
end
section
variable {K:aQ}{h:AH}
theorem Hp (hK:aZ K)(n m:Nat)(t:T)(hm:n+6<=m)(hs:size t<=n)(hn:n<=10000000)(bt:BT t):
  ∃ v h',cS K m (.fn 166 [] []) [enc t] .no h=some (.ret v,.no,h')/\(∃ b,v=.bool b/\(b=true->t=t0))/\HK h h':=by
 obtain⟨m,rfl⟩:∃ k,m=k+1:=⟨m-1,o_⟩
 refine bh hK ai5 (ae (bR t h) (aC _)) ?_;obtain⟨H,hH⟩:∃ H:AH,H=h.new (.box (aJ t)):=⟨_,rfl⟩
 have k0:HK h H:=by rw[hH];exact HK.new _ _
 have g0:H.get h.z=some (.box (aJ t)):=by rw[hH,aE]
 obtain⟨v,H1,e1,⟨b,rfl,hb⟩,k1⟩:=c11 hK n m t t0 H o_ hs hn (by decide) bt Bu;have hz:cE (.agg [i_ 0,i_ 0,.str (bs []),.nl,.nl]) H=(enc t0,H):=Zk H;rw[<- jo (f:=28) (c:=[]) (ae (bR t H) (ae hz (aC _))) (ae (bR _ _) (ae (bR _ _) (aC _)))]at e1;have hbz:∀ H:AH,bT H [i_ 0,i_ 0,.str (bs []),.nl,.nl] []=.val (.agg [i_ 0,i_ 0,.str (bs []),.nl,.nl]) H:=fun _=>rfl
 rw[aU t]at e1;unfold aJ at hH g0;rw[aU t];unfold agh;simp only[go_sem,simprocAttr];rw[<- hH];clear hH;simp only[go_sem,simprocAttr,Jx,g0,hbz,e1];exact⟨rfl,rfl,.inr rfl,[.bool b],by simp only[go_sem,simprocAttr,ae0],.bool b,_,aS (by intro l e;cases e) (aW _ _),⟨b,rfl,hb⟩,k0.trans k1⟩
end
def leadN:T->Nat
 |.mk k _ _ _ [_,b]=>if k=6 then leadN b+1 else 0
 |_=>0
section
variable {K:aQ}{h:AH}
def I1194 (t:T)(b:Nat)(h0:AH)(j:Nat)(fr:AF)(h:AH):Prop:=∃ tm u x,j=size u/\fr=⟨tm,⟨[],.no,none,194⟩⟩/\HK h0 h/\b<h.z/\h0.z<=b/\h.get b=some (.box (aJ u))/\nth tm 1=.ptr b 0 0/\nth tm 3=i_ ((x:Nat):Int)/\x+leadN u=leadN t/\x+size u<=size t
theorem afD (hK:aZ K)(m:Nat)(t:T)(hs:size t<=10000000):
  ∃ v h',cS K (m+1) (.fn 194 [] []) [enc t] .no h=some (.ret v,.no,h')/\v=i_ (leadN t:Int)/\HK h h':=by
 refine bh hK aiU (ae (bR t h) (aC _)) ?_;obtain⟨H,hH⟩:∃ H:AH,H=h.new (.box (aJ t)):=⟨_,rfl⟩
 have k0:HK h H:=by rw[hH];exact HK.new _ _
 have n0:H.z=h.z+1:=by rw[hH,ala]
 have g0:H.get h.z=some (.box (aJ t)):=by rw[hH,aE]
 unfold aJ at hH;rw[aU t];unfold af6;simp only[go_sem,simprocAttr];rw[<- hH];clear hH;simp only[go_sem,simprocAttr,IP,IS];refine bB (I1194 t h.z h) (size t) o_ ⟨_,t,0,rfl,rfl,k0,o_,e_ _,g0,k_,k_,o_,o_⟩ ?_;clear k0 n0 g0 H;rintro j fr H ⟨tm,u,x,rfl,rfl,hk,hn,hb,g,t1,t3,hx,hsz⟩;have fin:∀ (tm:Tm),nth tm 3=i_ ((x:Nat):Int)->leadN u=0->R (cS K m) 1000000000000 [.code Af] (IQ aaj fun v h2=>∃ v' h3,cG v h2=(v',h3)/\v'=i_ (leadN t:Int)/\HK h h3) .normal ⟨tm,⟨[],.no,none,194⟩⟩ H:=by
  intro tm t3 h0;simp only[go_sem,simprocAttr,Af,t3];exact⟨rfl,rfl,.inr rfl,[i_ ((x:Nat):Int)],by simp only[go_sem,simprocAttr,aaj],i_ ((x:Nat):Int),_,aS (by intro l e;cases e) (aG _ _ _),by rw[<- hx,h0];rfl,hk⟩
 obtain⟨k,i,nm,ls,ks⟩:=u;unfold aJ at g;simp only[T.kind,T.idx,T.name,T.L,T.K]at g;unfold Pn;by_cases a1:k=6
 ·have d1:decide (k=6)=true:=T_ a1;by_cases a2:(ks.length:Int)=2
  ·have d2:decide ((ks.length:Int)=2)=true:=T_ a2
   match ks,a2 with
   |[a,b],_=>
    have ia:∀ h,cz (.ls ([a,b].map enc)) h 5 (i_ 1)=.val (.vptr (enc b)) h:=fun h=>aK (f:=enc) bJ (show[a,b][1]?=some b from rfl) .i64 h
    have hst:=du g b;have hw:=aP x o_;have ele:=dN b;have dd:decide (((2:Nat):Int)=2)=true:=rfl;simp only[List.map_cons,List.map_nil]at ia g;simp only[go_sem,simprocAttr,t1,t3,g,d1,List.length_cons,List.length_nil,hw,ia,ele,hst];have hl:leadN (.mk k i nm ls [a,b])=leadN b+1:=by rw[leadN,P_ a1]
    have hz:size (.mk k i nm ls [a,b])=1+(size a+(size b+0)):=by simp only[size,bO]
    have:=bZ a;exact⟨size b,o_,_,b,x+1,rfl,rfl,hk.set _ hb,by rw[alb];exact hn,hb,aH _ _ _,q_ t1,k_,o_,o_⟩
  ·have d2:decide ((ks.length:Int)=2)=false:=D_ a2;simp only[go_sem,simprocAttr,t1,g,d1,L_,d2];refine fin _ (q_ t3) ?_;unfold leadN;split
   ·rename_i e;injection e with _ _ _ _ e5;subst e5;exact absurd rfl a2
   ·rfl
 ·have d1:decide (k=6)=false:=D_ a1;simp only[go_sem,simprocAttr,t1,g,d1];refine fin _ (q_ t3) ?_;unfold leadN;split
  ·rename_i e;injection e with e1 _ _ _ _;subst e1;exact N_ a1
  ·rfl
end
structure ahn (t:T)(h0 h:AH)(c:T)(V:AV)(out:List T):Prop where
 b1:h.get h0.z=some (.box (aJ c))
 b2:h.get (h0.z+1)=some (.box [i_ 0,i_ 0,.str (bs []),.nl,.nl])
 own:Own (h0.z+2) 5 true h V (out.map enc)
 kw:HK h0 h
 nx:h0.z+2<=h.z
 sp:gk t=out++gk c/\nW t=nW c
 sz:size c+out.length<=size t
def I1189 (t:T)(h0:AH)(j:Nat)(fr:AF)(h:AH):Prop:=∃ tm c V out,j=size c/\fr=⟨tm,⟨[],.no,none,189⟩⟩/\nth tm 1=.ptr h0.z 0 0/\nth tm 3=.ptr (h0.z+1) 0 0/\nth tm 4=V/\ahn t h0 h c V out
theorem c1189 {K:aQ}(hK:aZ K)(m:Nat)(t:T)(h:AH)(hl:size t<50000):
  ∃ v h',cS K (m+1) (.fn 189 [] []) [enc t] .no h=some (.ret v,.no,h')/\v=.tup [.ls ((gk t).map enc),enc (nW t)]/\HK h h':=by
 refine bh hK aiW (ae (bR _ _) (aC _)) ?_;simp only[A_];rw[aU t];unfold af8;simp only[go_sem,simprocAttr];obtain⟨H,hH⟩:∃ H:AH,H=((h.new (.box [i_ t.kind,i_ t.idx,.str t.name,.ls (t.L.map ba),.ls (t.K.map enc)])).new (.box [i_ 0,i_ 0,.str (bs []),.nl,.nl])):=⟨_,rfl⟩
 have n1:=ala h (.box [i_ t.kind,i_ t.idx,.str t.name,.ls (t.L.map ba),.ls (t.K.map enc)]);have J0:ahn t h H t .nl []:=by
  refine⟨?_,?_,fp _ _ _ _,by rw[hH];exact(HK.new _ _).add _,by rw[hH,ala,n1];omega,⟨by simp,rfl⟩,by simp⟩
  ·rw[hH,aL o_,aE];rfl
  ·rw[hH,<- n1,aE]
 rw[<- hH];clear hH;simp only[go_sem,simprocAttr,IV,IW,n1];refine bB (I1189 t h) (size t) o_ ⟨_,t,.nl,[],rfl,rfl,k_,k_,k_,J0⟩ ?_;rintro j fr H1 ⟨tm,c,V,out,rfl,rfl,t1,t3,t4,J⟩;have g1:=J.b1;have g2:=J.b2;have o:=J.own;unfold aJ at g1;have nx:=J.nx;have szc:=J.sz;have hend:∀ tm,nth tm 1=.ptr h.z 0 0->nth tm 3=.ptr (h.z+1) 0 0->nth tm 4=V->¬ (c.kind=6/\c.K.length=2)->
   R (cS K m) 1000000000000 [.code Ag] (IQ aak fun v h2=>∃ v' h3,cG v h2=(v',h3)/\v'=.tup [.ls ((gk t).map enc),enc (nW t)]/\HK h h3) .normal ⟨tm,⟨[],.no,none,189⟩⟩ H1:=by
  intro tm t1 t3 t4 hs;have sp:=J.sp;have ht:gk c=[]/\nW c=c:=by cases c;exact Ac hs
  rw[ht.1,ht.2,A_]at sp;have hne:¬ h.z+1=h.z:=o_;simp only[go_sem,simprocAttr,Ag,t1,t3,t4,g1,g2];obtain⟨H3,e3,n3,k3⟩:=wx iL (fun e=>by cases e) (cd (h':=H1.set (h.z+1) (.box (aJ c))) o (by rw[alb];exact e_ _) (fun a q _=>aB o_));have e5:=vg c H3;unfold aJ at e3 e5;refine⟨rfl,rfl,.inr rfl,[V,.agg [_,_,_,_,_]],by simp only[go_sem,simprocAttr,aak,t3],_,_,bz (ae e3 (ae e5 (aC _))),?_,?_,?_⟩
  ·rw[sp.1,sp.2]
  ·rw[n3,alb];have:=J.kw.z;omega
  ·intro k hk;rw[k3 k o_,aB o_];exact J.kw.kw k hk
 unfold Po;simp only[go_sem,simprocAttr,t1,g1];by_cases hk:c.kind=6
 ·simp only[go_sem,simprocAttr,hk,t1,g1];by_cases hl2:c.K.length=2
  ·obtain⟨k,i,nm,ls,ks⟩:=c;simp only[T.K,T.kind]at hl2 hk;subst hk
   match ks,hl2 with
   |[f,a],_=>
    have hsc:size (.mk 6 i nm ls [f,a])=1+(size f+(size a+0)):=by simp only[size,bO]
    have hf:=bZ f;have ha:∀ h,cz (.ls ([f,a].map enc)) h 5 (i_ 0)=.val (.vptr (enc f)) h:=fun h=>aK (ks:=[f,a]) (m:=0) bJ rfl .i64 h
    have hb:∀ h,cz (.ls ([f,a].map enc)) h 5 (i_ 1)=.val (.vptr (enc a)) h:=fun h=>aK (ks:=[f,a]) (m:=1) bJ rfl .i64 h
    simp only[T.kind,T.idx,T.name,T.L,T.K,List.map_cons,List.map_nil]at ha hb g1;have h22:decide (((2:Nat):Int)=2)=true:=rfl;obtain⟨V',H4,e4,o4,n4,k4,_⟩:=dD (bytes:=80) (x:=enc f) (z:=[i_ 0,i_ 0,.str (bs []),.nl,.nl]) o o_ rfl (bJ f) (hG f) (wC f) (by rw[L_];omega) (by decide);have g1':=(k4 h.z o_).trans g1;have hst:=du g1' a;simp only[go_sem,simprocAttr,T.K,t1,t4,g1,hb,OM,e4,g1',ha,hst];have sp:=J.sp;rw[gk,nW,P_ rfl,P_ rfl]at sp;refine⟨_,o_,_,a,V',out++[f],rfl,rfl,q_ t1,q_ t3,k_,⟨aH _ _ _,?_,?_,?_,?_,?_,?_⟩⟩
    ·rw[aB o_,k4 _ o_];exact g2
    ·rw[List.map_append];exact cd o4 (by rw[alb];exact e_ _) (fun a q _=>aB o_)
    ·have:=J.kw.z;exact HK.set ⟨o_,fun k hk=>(k4 k o_).trans (J.kw.kw k hk)⟩ _ o_
    ·rw[alb];omega
    ·refine⟨by rw[sp.1];simp,sp.2⟩
    ·simp only[List.length_append,List.length_cons,List.length_nil];omega
  ·have:decide ((c.K.length:Int)=2)=false:=by simp;omega
   simp only[go_sem,simprocAttr,this];exact hend _ (q_ t1) (q_ t3) (q_ t4) (fun e=>hl2 e.2)
 ·simp only[go_sem,simprocAttr,hk];exact hend _ (q_ t1) (q_ t3) (q_ t4) (fun e=>hk e.1)
