/- SolverFinals: the nodes of a term, by the program, for any round (no condition). -/
import Derived.Test.YtnacljdablhbgaaGreatGa
namespace Go.Proofs.YtnacljdablhbgaaGreat
open Go.AG
def U65:List AV:=[.bool true,.bool false,wt (0),wt (0),wt (-1),.bool false,.bool false,wt (0),wt (0),wt (-1),.bool false,.bool false,wt (1),wt (0),wt (-1),.bool false,.bool true,wt (-1),wt (0),wt (-1),.bool false,.bool false,wt (0),wt (2),wt (-1),.bool false,.bool false,wt (0),wt (2),wt (1),.bool false,.bool false,wt (0),wt (2),wt (1),.bool false,.bool false,wt (0),wt (2),wt (1),.bool false,.bool false,wt (0),wt (3),wt (-1),.bool false,.bool false,wt (0),wt (1),wt (-1),.bool false,.bool false,wt (0),wt (1),wt (-1),.bool false,.bool false,wt (0),wt (3),wt (2),.bool true,.bool false,wt (0),wt (0),wt (-1)]
def WS (r:Option (bI×RC×AH)):Option (bI×RC):=match r with
 |some (o,rc,_)=>some (o,rc)
 |none=>none
theorem ev123:WS (dZ EI (fun _ _ _ _=>none) 1 123 [] .no bg)=some (.ret (.agg U65),.no):=by kernel_rfl
def bl (k:Int):Int:=if k=5∨k=6∨k=7 then 1 else if k=11 then 2 else -1
theorem aee:∀m:Nat,m<13->U65[m*5+4]?=some (wt (bl m))
 |0,_=>rfl|1,_=>rfl|2,_=>rfl|3,_=>rfl|4,_=>rfl|5,_=>rfl|6,_=>rfl|7,_=>rfl|8,_=>rfl|9,_=>rfl|10,_=>rfl|11,_=>rfl|12,_=>rfl
 |m+13,h=>by omega
theorem Et (k:Int)(j:Nat):aV k j=if (j:Int)=bl k then 1 else 0:=by
 unfold aV bl;by_cases h1:k=5∨k=6∨k=7
 ·have h2:¬k=11:=by omega
  simp[h1,h2]
 ·by_cases h3:k=11
  ·simp[h3]
  ·simp only[h1,h3,if_false,and_false,or_self];rw[wad (by omega)]
theorem ad7 (k:Int)(h:¬(0<=k/\k<13)):bl k=-1:=by
 unfold bl;rw[wad (by omega),wad (by omega)]
mutual
def pre:T->List T
 |.mk k i nm ls ks=>.mk k i nm ls ks::pres ks
def pres:List T->List T
 |[]=>[]
 |t::l=>pre t++pres l
end
mutual
theorem Iq:∀t,(pre t).length=size t
 |.mk _ _ _ _ ks=>by simp only[pre,size,List.length_cons,vm ks];omega
theorem vm:∀l,(pres l).length=aW l
 |[]=>rfl
 |t::l=>by simp only[pres,aW,List.length_append,Iq t,vm l]
end
theorem Kc (ks:List T)(i:Nat)(t:T)(h:ks[i]?=some t):pres (ks.take (i+1))=pres (ks.take i)++pre t:=by
 induction ks generalizing i with
 |nil=>simp at h
 |cons a l ih=>
  cases i with
  |zero=>simp at h;subst h;simp[pres]
  |succ i=>simp at h;simp only[List.take_succ_cons,pres,ih i h,List.append_assoc]
structure St (B:Nat)(h h':AH):Prop where
 z:h.z<=h'.z
 box:∀k cs,B<=k->k<h.z->h.get k=some (.box cs)->h'.get k=some (.box cs)
theorem St.trans {B:Nat}{a b c:AH}(x:St B a b)(y:St B b c):St B a c:=⟨Nat.le_trans x.z y.z,fun k cs q1 q2 q3=>y.box k cs q1 (Nat.lt_of_lt_of_le q2 x.z) (x.box k cs q1 q2 q3)⟩
theorem HK.st {h h':AH}(x:HK h h')(B:Nat):St B h h':=⟨x.z,fun k _cs _ q2 q3=>(x.kw k q2).trans q3⟩
theorem St.refl (B:Nat)(h:AH):St B h h:=(HK.refl h).st B
structure VB (B L y u v:Nat)(h:AH):Prop where
 y1:h.get y=some (.box [.yld L])
 u1:h.get u=some (.box U65)
 v1:h.get v=some (.box [.fn 124 [] [.ptr y 0 0,.ptr u 0 0,.ptr v 0 0]])
 y2:B<=y
 u2:B<=u
 v2:B<=v
 y3:y<h.z
 u3:u<h.z
 v3:v<h.z
theorem VB.st {B L y u v:Nat}{h h':AH}(b:VB B L y u v h)(s:St B h h'):VB B L y u v h':=
 ⟨s.box _ _ b.y2 b.y3 b.y1,s.box _ _ b.u2 b.u3 b.u1,s.box _ _ b.v2 b.v3 b.v1,b.y2,b.u2,b.v2,Nat.lt_of_lt_of_le b.y3 s.z,Nat.lt_of_lt_of_le b.u3 s.z,Nat.lt_of_lt_of_le b.v3 s.z⟩
theorem ad2 {K:aG}(hK:bW K){m l:Nat}{a a':List AV}{h h1:AH}{b:Bool}{h2:AH}(e0:iP a h=(a',h1))(e:nG (cS K m) 60000 l a' h1=some (.ret (.bool b),.no,h2)):cS K (m+1) (.yld l) a .no h=some (.ret (.bool b),.no,h2):=by
 have e1:cS K (m+1) (.yld l) a .no h=tX (nG (cS K m) 60000 l a' h1):=NT e0 (hK.yld l a' .no h1);rw[e1,e];rfl
theorem XW (k i:Int)(nm:ByteArray)(ls:List LL)(ks:List T)(h:AH):eT (.agg [wt k,wt i,.str nm,.ls (ls.map aK),.ls (ks.map enc)]) h=(.agg [wt k,wt i,.str nm,.ls (ls.map aK),.ls (ks.map enc)],h):=by
 rw[<-ei];exact aP _ _
def acg (P:List T->AH->Prop)(B L y u v:Nat)(k:Int)(ks:List T)(d:Int)(seen:List T)(h0:AH)(j:Nat)(fr:AF)(h:AH):Prop:=∃tm m,m+j=ks.length/\fr=⟨tm,⟨[],.no,none,124⟩⟩/\
 nth tm 1=wt d/\nth tm 4=.ptr v 0 0/\nth tm 8=wt (bl k)/\nth tm 31=.ls (ks.map enc)/\nth tm 32=wt (ks.length:Int)/\nth tm 33=wt (m:Int)/\
 P (seen++pres (ks.take m)) h/\St B h0 h/\VB B L y u v h
section
variable {K:aG}{P:List T->AH->Prop}{B L y u v lim:Nat}
theorem acO (hK:bW K)(hst:∀s h h',P s h->HK h h'->P s h')
  (hy:∀m s (h:AH) (d:Int) k i nm ls ks,P s h->s.length<lim->B<=h.z->∃h',nG (cS K m) 60000 L [wt d,.agg [wt k,wt i,.str nm,.ls (ls.map aK),.ls (ks.map enc)]] h=some (.ret (.bool true),.no,h')/\P (s++[.mk k i nm ls ks]) h'/\St B h h') :
  ∀m t (d:Int) h seen,size t+2<=m->size t<=50000->0<=d->d+size t<=1000000->P seen h->seen.length+size t<=lim->VB B L y u v h->
   ∃r h',cS K m (.fn 124 [] [.ptr y 0 0,.ptr u 0 0,.ptr v 0 0]) [enc t,wt d] .no h=some (.ret r,.no,h')/\r=.bool true/\P (seen++pre t) h'/\St B h h':=by
 intro m;induction m with
 |zero=>intro t d h seen hm;omega
 |succ m ih=>
  intro t d h seen hm h50 hd0 hd1 hP hlim V;obtain⟨k,i,nm,ls,ks⟩:=t;have hsz:size (.mk k i nm ls ks)=1+aW ks:=by simp[size]
  rw[hsz]at hm hd1 hlim h50;have hlen:=bE ks;obtain⟨m,rfl⟩:∃m',m=m'+1:=⟨m-1,by omega⟩
  refine cm hK cf124 (ae (aP _ _) (ae (ba _ _ _) (aB _))) ?_;rw[ei];unfold b124;simp only[go_sem,simprocAttr];obtain⟨H,hH⟩:∃H:AH,H=h.new (.box [wt k,wt i,.str nm,.ls (ls.map aK),.ls (ks.map enc)]):=⟨_,rfl⟩
  rw[<-hH];have k0:HK h H:=by subst hH;exact HK.new _ _
  have g5:H.get h.z=some (.box [wt k,wt i,.str nm,.ls (ls.map aK),.ls (ks.map enc)]):=by subst hH;exact aE _ _
  have gn:H.z=h.z+1:=by subst hH;exact ci _ _
  clear hH;have VH:=V.st (k0.st B);have g7:=VH.y1;have hB:B<=h.z:=Nat.le_of_lt (Nat.lt_of_le_of_lt V.y2 V.y3);obtain⟨h1,e1,P1,S1⟩:=hy m seen H d k i nm ls ks (hst _ _ _ hP k0) (by omega) (by omega);have e1:cS K (m+1) (.yld L) [wt d,.agg [wt k,wt i,.str nm,.ls (ls.map aK),.ls (ks.map enc)]] .no H=some (.ret (.bool true),.no,h1):=
   ad2 hK (ae (ba _ _ _) (ae (XW _ _ _ _ _ _) (aB _))) e1
  have k5:=S1.box h.z _ hB (by omega) g5;have V1:=VH.st S1;have S0:St B h h1:=(k0.st B).trans S1;simp only[go_sem,simprocAttr,HR,g7,g5,e1,Se,Sf,k5];have rest:∀tm,nth tm 1=wt d->nth tm 4=.ptr v 0 0->nth tm 5=.ptr h.z 0 0->nth tm 8=wt (bl k)->R (cS K (m+1)) 60000 [.code GA] (IQ aeE fun r h2=>∃v' h3,gT r h2=(v',h3)/\v'=.bool true/\P (seen++pre (.mk k i nm ls ks)) h3/\St B h h3) .normal ⟨tm,⟨[],.no,none,124⟩⟩ h1:=by
   intro tm u1 u4 u5 u8;unfold GA;simp only[go_sem,simprocAttr,u5,k5];refine bD (acg P B L y u v k ks d (seen++[.mk k i nm ls ks]) h) ks.length (by omega) ⟨_,0,wac _,rfl,by simp only[go_sem,simprocAttr, *],by simp only[go_sem,simprocAttr, *],by simp only[go_sem,simprocAttr, *],by simp only[go_sem,simprocAttr],by simp only[go_sem,simprocAttr],by simp only[go_sem,simprocAttr],by simpa [pres] using P1,S0,V1⟩ ?_;clear u1 u4 u5 u8 tm;rintro j fr h2 ⟨tm,p,hp,rfl,u1,u4,u8,u31,u32,u33,P2,S2,V2⟩;unfold Uf;simp only[go_sem,simprocAttr,Sh,u32,u33];refine bj (fun hlt=>?_) (fun hge=>?_)
   ·have hlt:p<ks.length:=by omega
    have hget:ks[p]?=some ks[p]:=wO hlt;have ha:=fun h=>aN aZ hget .i64 h
    have hep:=aA ks[p];have hb:=mG k p;have hbb:=Et k p;have hss:=ck hget;have hst':=kq ks p _ hget;have hsl:=fQ ks (p+1);have hw2:=aM p (by omega);obtain⟨h3,hh3⟩:∃h3,h3=(h2.new (.box [wt 0,wt 0,.str (bs []),.nl,.nl])).set h2.z (.box [wt ks[p].kind,wt ks[p].i,.str ks[p].name,.ls (ks[p].L.map aK),.ls (ks[p].K.map enc)]):=⟨_,rfl⟩
    have k3:HK h2 h3:=by rw[hh3];exact(HK.new _ _).set _ (Fv _)
    have r2:h3.get h2.z=some (.box [wt ks[p].kind,wt ks[p].i,.str ks[p].name,.ls (ks[p].L.map aK),.ls (ks[p].K.map enc)]):=by rw[hh3,aC]
    have V3:=V2.st (k3.st B);have r9:=V3.v1;have plen:(seen++[T.mk k i nm ls ks]++pres (ks.take p)).length=seen.length+1+aW (ks.take p):=by simp[vm];omega
    obtain⟨r,h4,e4,rfl,P4,S4⟩:=ih ks[p] (d+aV k p) h3 _ (by omega) (by omega) (by omega) (by omega) (hst _ _ _ P2 k3) (by omega) V3;rw[hep]at e4;have S5:St B h h4:=S2.trans ((k3.st B).trans S4);have V4:=V3.st S4;have fin:∀tm,nth tm 1=wt d->nth tm 4=.ptr v 0 0->nth tm 8=wt (bl k)->nth tm 31=.ls (ks.map enc)->nth tm 32=wt (ks.length:Int)->nth tm 33=wt ((p+1:Nat):Int)->∃j',j'<j/\acg P B L y u v k ks d (seen++[.mk k i nm ls ks]) h j' ⟨tm,⟨[],.no,none,124⟩⟩ h4:=by
     intro tm w1 w4 w8 w31 w32 w33;refine⟨j-1,by omega,tm,p+1,by omega,rfl,w1,w4,w8,w31,w32,w33,?_,S5,V4⟩;rw[Kc ks p _ hget,<-List.append_assoc];exact P4
    simp only[go_sem,simprocAttr,Si,u31,u33,ha,hep,Sj,Sk,u1,u8];rw[<-hh3];refine bj (fun heq=>?_) (fun hne=>?_)
    ·rw[wae heq]at hbb;rw[hbb]at e4;have hw1:IntKind.wrap .i64 (d+1)=d+1:=br _ (by omega) (by omega);simp only[go_sem,simprocAttr,hw1,GB,u4,r9,r2,e4,u33,hw2];exact fin _ (by simp only[go_sem,simprocAttr, *]) (by simp only[go_sem,simprocAttr, *]) (by simp only[go_sem,simprocAttr, *]) (by simp only[go_sem,simprocAttr, *]) (by simp only[go_sem,simprocAttr, *]) (by simp only[go_sem,simprocAttr, *])
    ·rw[wad hne]at hbb;rw[hbb,Int.add_zero]at e4;simp only[go_sem,simprocAttr,GB,u4,r9,r2,e4,u33,hw2];exact fin _ (by simp only[go_sem,simprocAttr, *]) (by simp only[go_sem,simprocAttr, *]) (by simp only[go_sem,simprocAttr, *]) (by simp only[go_sem,simprocAttr, *]) (by simp only[go_sem,simprocAttr, *]) (by simp only[go_sem,simprocAttr, *])
   ·have:p=ks.length:=by omega
    subst this;rw[List.take_length]at P2;simp only[go_sem,simprocAttr,Sg];refine⟨rfl,rfl,.inr rfl,[.bool true],by simp only[go_sem,simprocAttr,aeE],.bool true,h2,rfl,rfl,?_,S2⟩;simpa [pre] using P2
  by_cases hr:0<=k/\k<13
  ·obtain⟨kn,hkn⟩:∃kn:Nat,k=(kn:Int):=⟨k.toNat,by omega⟩
   have hb1:decide (0<=k)=true:=by simpa using hr.1
   have hb2:decide (k<13)=true:=by simpa using hr.2
   have hia:=fun h=>OE u 13 5 kn true .i64 h (by omega)
   rw[<-hkn]at hia;have hU:=aee kn (by omega);rw[<-hkn]at hU;have k8:=V1.u1;simp only[go_sem,simprocAttr,hb1,hb2,k5,hia,k8,hU];exact rest _ (by simp only[go_sem,simprocAttr]) (by simp only[go_sem,simprocAttr]) (by simp only[go_sem,simprocAttr]) (by simp only[go_sem,simprocAttr])
  ·have hbo:=ad7 k hr;cases hb1:decide (0<=k) with
   |false=>
    simp only[go_sem,simprocAttr];exact rest _ (by simp only[go_sem,simprocAttr]) (by simp only[go_sem,simprocAttr]) (by simp only[go_sem,simprocAttr]) (by simp only[go_sem,simprocAttr,hbo])
   |true=>
    have hb2:decide (k<13)=false:=by simp at hb1 ⊢;omega
    simp only[go_sem,simprocAttr,k5,hb2];exact rest _ (by simp only[go_sem,simprocAttr]) (by simp only[go_sem,simprocAttr]) (by simp only[go_sem,simprocAttr]) (by simp only[go_sem,simprocAttr,hbo])
end
structure KB (K:aG):Prop where
 r123:∀h,K (.fn 123 [] []) [] .no h=some (.ret (.agg U65),.no,h)
def IDQ (call:aG)(rs:List bF)(P:AV->AH->Prop)(e:AEx)(fr:AF)(h1:AH):Prop:=
 fr.cx.rc=.no/\(e=.normal∨e=.ret)/\∃h2,jK fr.cx.dfs call .returning h1=some (.returning,h2)/\∃vs,fF rs fr.tm h2=some vs/\P (one vs) h2
theorem XM {E:Env}{call:aG}{n:Nat}{f:FuncId}{az:List AV}{h0:AH}{P:AV->AH->Prop}{nt:Nat}{rs:List bF}{body:aw}(hcf:E.cf f=some ⟨nt,rs,body⟩)(hp:E.pure f=false)
  (hR:R call n [.code body] (IDQ call rs P) .normal ⟨bn az,⟨[],.no,none,f⟩⟩ h0):∃v h',dZ E call n f az .no h0=some (.ret v,.no,h')/\P v h':=by
 obtain⟨e,⟨tm,⟨dfs,rc,rnd,fid⟩⟩,h,q,q2,q3,h2,q4,vs,r1,r2⟩:=hR;replace q2:rc=.no:=q2;replace q4:jK dfs call .returning h=some (.returning,h2):=q4;subst q2;have q':evCode body call n ⟨bn az,⟨[],.no,none,f⟩⟩ (lowered (E.pure f) h0)=some (e,⟨tm,⟨dfs,.no,rnd,fid⟩⟩,h):=by rw[hp];exact q
 have key:tz call (E.pure f) h0 ⟨nt,rs,body⟩ ⟨tm,⟨dfs,.no,rnd,fid⟩⟩ .returning h=some (bI.ret (one vs),RC.no,h2):=by
  show aq (jK dfs call .returning h) (fun p=>VP p.1 (E.pure f) h0 ⟨nt,rs,body⟩ ⟨tm,⟨dfs,.no,rnd,fid⟩⟩ p.2)=_;rw[q4,aF];show aq (fF rs tm h2) (fun vs=>qM (E.pure f) h0 h2 .no vs)=_;rw[r1,aF,hp];rfl
 unfold dZ;rw[hcf,aF];simp only[q',aF];rcases q3 with rfl|rfl
 ·exact⟨_,_,key,r2⟩
 ·exact⟨_,_,key,r2⟩
theorem IX {K:aG}{m f:Nat}{c a a':List AV}{h h1:AH}(hK:bW K){nt:Nat}{rs:List bF}{body:aw}{P:AV->AH->Prop}(hcf:EF.cf f=some ⟨nt,rs,body⟩)(e0:iP a h=(a',h1))
  (hR:R (cS K m) 60000 [.code body] (IDQ (cS K m) rs fun v h2=>∃v' h3,gT v h2=(v',h3)/\P v' h3) .normal ⟨bn (a'++c),⟨[],.no,none,f⟩⟩ h1)
  (hf:f∈Dm:=by decide) (hn:niL.contains f=false:=by decide) (ho:noL.contains f=false:=by decide):∃v h',cS K (m+1) (.fn f [] c) a .no h=some (.ret v,.no,h')/\P v h':=by
 obtain⟨v,h2,e,v',h3,e3,hP⟩:=XM (cfG hcf) (tw f) hR;exact⟨v',h3,by rw[zO hK e0 hf hn,ho,cond_false,e,nW e3],hP⟩
theorem c81 {K:aG}(hK:bW K)(m:Nat)(t:T)(h:AH):
  ∃v h',cS K (m+1) (.fn 81 [] []) [enc t] .no h=some (.ret v,.no,h')/\v=.fn 122 [] [.ptr h.z 0 0]/\h'=h.new (.box (au t)):=by
 refine cm hK cf81 (ae (aP _ _) (aB _)) ?_;simp only[wab];rw[aA t];unfold b81;simp only[go_sem,simprocAttr,ZM];refine⟨rfl,rfl,.inr rfl,[.fn 122 [] [.ptr h.z 0 0]],by simp only[go_sem,simprocAttr,r81],_,_,cC (by intro l e;cases e) (jD _ _ _ _),rfl,rfl⟩
theorem c122 {K:aG}(hK:bW K)(kb:KB K){P:List T->AH->Prop}{B L lim:Nat}(hst:∀s h h',P s h->HK h h'->P s h')
  (hy:∀m s (h:AH) (d:Int) k i nm ls ks,P s h->s.length<lim->B<=h.z->∃h',nG (cS K m) 60000 L [wt d,.agg [wt k,wt i,.str nm,.ls (ls.map aK),.ls (ks.map enc)]] h=some (.ret (.bool true),.no,h')/\P (s++[.mk k i nm ls ks]) h'/\St B h h')
  (m:Nat) (t:T) (x:Nat) (h:AH) (hm:size t+2<=m) (h50:size t<=50000) (hl:size t<=lim) (hx:h.get x=some (.box (au t))) (hx2:x<h.z) (hB:B<=h.z) (hP:P [] h) :
  ∃v h',cS K (m+1) (.fn 122 [] [.ptr x 0 0]) [.yld L] .no h=some (.ret v,.no,h')/\v=.tup []/\P (pre t) h'/\St B h h':=by
 refine cm hK cf122 (ae (OR _ _) (aB _)) ?_;have hby:∀h:AH,gU h 1 (.yld L)=.val (.ptr h.z 0 0) (h.new (.box [.yld L])):=fun h=>jE rfl
 have hul:U65.length=65:=rfl;have hs:∀(z:List AV),z.length=65->over U65 z=U65:=by
  intro z hz;have:=vq U65 z [] (by rw[hz];rfl);simpa using this
 have c123:∀h,cS K m (.fn 123 [] []) [] .no h=some (.ret (.agg U65),.no,h):=fun h=>dP (aB _) (kb.r123 h) (by rw[cC (by intro l e;cases e) (dG (by simp[AV.free,U65,AV.jp]) _)];simp[AV.norm,AV.ip,U65]) m
 have key:∀(H:AH) (tm:Tm),H.get h.z=some (.box [.yld L])->H.get (h.z+1)=some (.box U65)->HK h H->H.z=h.z+2->nth tm 1=.ptr x 0 0->nth tm 2=.ptr h.z 0 0->nth tm 3=.ptr (h.z+1) 0 0->
   R (cS K m) 60000 [.code GC] (IQ r122 fun v h2=>∃v' h3,gT v h2=(v',h3)/\v'=.tup []/\P (pre t) h3/\St B h h3) .normal ⟨tm,⟨[],.no,none,122⟩⟩ H:=by
  intro H tm g2 g3 kH nH t1 t2 t3;obtain⟨H2,hH2⟩:∃H2:AH,H2=(H.new (.box [.nilf])).set H.z (.box [.fn 124 [] [.ptr h.z 0 0,.ptr (h.z+1) 0 0,.ptr H.z 0 0]]):=⟨_,rfl⟩
  have k2:HK H H2:=by subst hH2;exact(HK.new _ _).set _ (Fv _)
  have n2:H2.z=H.z+1:=by subst hH2;rw[co,ci]
  have y1:H2.get h.z=some (.box [.yld L]):=(k2.kw _ (by omega)).trans g2;have u1:H2.get (h.z+1)=some (.box U65):=(k2.kw _ (by omega)).trans g3;have v1:H2.get H.z=some (.box [.fn 124 [] [.ptr h.z 0 0,.ptr (h.z+1) 0 0,.ptr H.z 0 0]]):=by subst hH2;exact aC _ _ _
  have x1:H2.get x=some (.box (au t)):=((kH.trans k2).kw x hx2).trans hx;obtain⟨r,h3,e3,rfl,P3,S3⟩:=acO (lim:=lim) (L:=L) (y:=h.z) (u:=h.z+1) (v:=H.z) hK hst hy m t 0 H2 [] hm h50 (by omega) (by omega) (hst _ _ _ hP (kH.trans k2)) (by simpa using hl) ⟨y1,u1,v1,by omega,by omega,by omega,by omega,by omega,by omega⟩;rw[cN]at e3;unfold au at x1 e3;simp only[go_sem,simprocAttr,GC,Sm,t1,t2,t3];rw[<-hH2];simp only[go_sem,simprocAttr,x1,e3];exact⟨rfl,rfl,.inl rfl,[],rfl,.tup [],h3,bG (aB _),rfl,by simpa using P3,((kH.trans k2).st B).trans S3⟩
 unfold b122;simp only[go_sem,simprocAttr,hby,Sl,c123,hul,hs];refine key _ _ ?_ ?_ ?_ ?_ (by simp only[go_sem,simprocAttr]) (by simp only[go_sem,simprocAttr]) (by simp only[go_sem,simprocAttr,ci])
 ·rw[an (by rw[ci];omega),aJ (by rw[ci];omega),aE]
 ·rw[<-ci h (.box [.yld L]),aC]
 ·exact((HK.new _ _).add _).set _ (by rw[ci];omega)
 ·simp only[co,ci]
structure Mb (h:AH)(tm0:Tm)(s:List T)(H:AH):Prop where
 b3:H.get (h.z+1)=some (.box [wt ((s.length:Nat):Int)])
 lp:H.get (h.z+4)=some (.loop .ready none tm0 [6,7] jl jk 245)
 df:H.get (h.z+3)=some (.dfd false)
 nx:h.z+5<=H.z
 kw:HK h H
theorem Mb.up {h:AH}{tm0:Tm}{s:List T}{H H':AH}(p:Mb h tm0 s H)(k:HK H H'):Mb h tm0 s H':=by
 have:=p.nx;exact⟨(k.kw _ (by omega)).trans p.b3,(k.kw _ (by omega)).trans p.lp,(k.kw _ (by omega)).trans p.df,Nat.le_trans p.nx k.z,p.kw.trans k⟩
theorem acM (call:aG)(n:Nat)(h:AH)(tm0:Tm)(t3:nth tm0 3=.ptr (h.z+1) 0 0)(s:List T)(H:AH)(d:Int)(k i:Int)(nm:ByteArray)(ls:List LL)(ks:List T)(p:Mb h tm0 s H)(hl:s.length<60000):
  ∃h',nG call n (h.z+4) [wt d,.agg [wt k,wt i,.str nm,.ls (ls.map aK),.ls (ks.map enc)]] H=some (.ret (.bool true),.no,h')/\Mb h tm0 (s++[.mk k i nm ls ks]) h'/\St (h.z+5) H h':=by
 have nx:=p.nx;refine Zz p.lp rfl ?_;unfold jl;simp only[go_sem,simprocAttr];obtain⟨H1,hH1⟩:∃H1:AH,H1=H.set (h.z+4) (.loop .busy none tm0 [6,7] jl jk 245):=⟨_,rfl⟩
 refine⟨H1,by rw[hH1];exact sT p.lp,?_⟩;have g3:H1.get (h.z+1)=some (.box [wt ((s.length:Nat):Int)]):=by rw[hH1];exact(an (by omega)).trans p.b3
 have lp1:H1.get (h.z+4)=some (.loop .busy none tm0 [6,7] jl jk 245):=by rw[hH1,aC]
 have o1:∀a,a≠h.z+4->H1.get a=H.get a:=fun a ha=>by rw[hH1,an ha]
 have n1:H1.z=H.z:=by rw[hH1,co]
 have k1:HK h H1:=by rw[hH1];exact p.kw.set _ (by omega)
 clear hH1;have lp2:(H1.set (h.z+1) (.box [wt ((s.length+1:Nat):Int)])).get (h.z+4)=some (.loop .busy none tm0 [6,7] jl jk 245):=by rw[an (by omega)];exact lp1
 have fin:Mb h tm0 (s++[.mk k i nm ls ks]) ((H1.set (h.z+1) (.box [wt ((s.length+1:Nat):Int)])).set (h.z+4) (.loop .ready none tm0 [6,7] jl jk 245)):=by
  refine⟨?_,aC _ _ _,?_,?_,?_⟩
  ·rw[an (by omega),aC,List.length_append];rfl
  ·rw[an (by omega),an (by omega),o1 _ (by omega)];exact p.df
  ·simp only[co,n1];exact nx
  ·exact(k1.set _ (by omega)).set _ (by omega)
 have st:St (h.z+5) H ((H1.set (h.z+1) (.box [wt ((s.length+1:Nat):Int)])).set (h.z+4) (.loop .ready none tm0 [6,7] jl jk 245)):=by
  refine⟨by simp only[co,n1];exact Fv _,?_⟩;intro a cs q1 q2 q3;rw[an (by omega),an (by omega),o1 _ (by omega)];exact q3
 have y2:=sg (st':=.ready) (pend':=none) lp2;revert fin st y2;generalize (H1.set (h.z+1) (.box [wt ((s.length+1:Nat):Int)])).set (h.z+4) (.loop .ready none tm0 [6,7] jl jk 245)=H9;intro fin st y2;clear lp2 lp1 p;unfold jk;have hw:=aM s.length (by omega);simp only[go_sem,simprocAttr,t3,g3,hw];exact⟨_,y2,fin,st⟩
theorem c245 {K:aG}(hK:bW K)(kb:KB K)(m:Nat)(t:T)(h:AH)(hm:size t+3<=m)(h50:size t<=50000):
  ∃v h',cS K (m+1) (.fn 245 [] []) [enc t] .no h=some (.ret v,.no,h')/\v=wt (size t)/\HK h h':=by
 obtain⟨m,rfl⟩:∃m',m=m'+1:=⟨m-1,by omega⟩
 refine IX hK cf245 (ae (aP _ _) (aB _)) ?_;simp only[wab];rw[aA t];unfold b245;simp only[go_sem,simprocAttr,Qc,Qd];obtain⟨H,hH⟩:∃H:AH,H=((h.new (.box (au t))).new (.box [wt 0])).set (h.new (.box (au t))).z (.box [wt 0]):=⟨_,rfl⟩
 have kH:HK h H:=by subst hH;exact((HK.new _ _).add _).set _ (by rw[ci];omega)
 have nH:H.z=h.z+2:=by subst hH;simp only[co,ci]
 have g1:H.get h.z=some (.box (au t)):=by subst hH;rw[an (by rw[ci];omega),aJ (by rw[ci];omega),aE]
 have g2:H.get (h.z+1)=some (.box [wt 0]):=by subst hH;rw[<-ci h (.box (au t)),aC]
 have hH':=hH;unfold au at hH';rw[<-hH'];clear hH hH';have g1':=g1;unfold au at g1';obtain⟨_,_,e81,rfl,rfl⟩:=c81 hK m t H;rw[aA]at e81;simp only[go_sem,simprocAttr,ci,g1',e81,nH];obtain⟨tm,htm⟩:∃tm:Tm,tm=(((((Tr.lf.put 0 (AV.agg [wt t.kind,wt t.i,.str t.name,.ls (t.L.map aK),.ls (t.K.map enc)])).put 1 (.ptr h.z 0 0)).put 2 (wt 0)).put 3 (.ptr (h.z+1) 0 0)).put 4 (AV.agg [wt t.kind,wt t.i,.str t.name,.ls (t.L.map aK),.ls (t.K.map enc)])).put 5 (.fn 122 [] [.ptr (h.z+2) 0 0]):=⟨_,rfl⟩
 rw[<-htm];have t3:nth tm 3=.ptr (h.z+1) 0 0:=by subst htm;simp only[go_sem,simprocAttr]
 have t5:nth tm 5=.fn 122 [] [.ptr (h.z+2) 0 0]:=by subst htm;simp only[go_sem,simprocAttr]
 clear htm;obtain⟨H0,hH0⟩:∃H0:AH,H0=H.new (.box (au t)):=⟨_,rfl⟩
 rw[<-hH0];have k0:HK H H0:=by subst hH0;exact HK.new _ _
 have n0:H0.z=h.z+3:=by subst hH0;rw[ci,nH]
 have x0:H0.get (h.z+2)=some (.box (au t)):=by subst hH0;rw[<-nH];exact aE _ _
 clear hH0;obtain⟨H1,hH1⟩:∃H1:AH,H1=(H0.new (.dfd false)).new (.loop .ready none tm [6,7] jl jk 245):=⟨_,rfl⟩
 have k1:HK H0 H1:=by subst hH1;exact(HK.new _ _).add _
 have n1:H1.z=h.z+5:=by subst hH1;simp only[ci,n0]
 have P1:Mb h tm [] H1:=by
  refine⟨((k0.trans k1).kw _ (by omega)).trans g2,?_,?_,by omega,(kH.trans k0).trans k1⟩
  ·subst hH1;have:(H0.new (.dfd false)).z=h.z+4:=by rw[ci,n0]
   rw[<-this];exact aE _ _
  ·subst hH1;rw[aJ (by rw[ci];omega),<-n0];exact aE _ _
 obtain⟨v2,h2,e2,rfl,P2,S2⟩:=c122 (P:=Mb h tm) (B:=h.z+5) (L:=h.z+4) (lim:=60000) hK kb (fun s a b p k=>p.up k) (fun m s H d k i nm ls ks p hl _=>acM _ _ h tm t3 s H d k i nm ls ks p hl) m t (h.z+2) H1 (by omega) h50 (by omega) ((k1.kw _ (by omega)).trans x0) (by omega) (by omega) P1;refine uJ (h.z+3) (h.z+4) n0 rfl (by rw[aeP,t5,<-hH1];exact e2) P2.lp rfl ?_;have g3:(h2.set (h.z+4) (.loop .exhausted none tm [6,7] jl jk 245)).get (h.z+1)=some (.box [wt (((pre t).length:Nat):Int)]):=(an (by omega)).trans P2.b3;have d3:(h2.set (h.z+4) (.loop .exhausted none tm [6,7] jl jk 245)).get (h.z+3)=some (.dfd false):=(an (by omega)).trans P2.df;have kf:HK h (h2.set (h.z+4) (.loop .exhausted none tm [6,7] jl jk 245)):=P2.kw.set _ (by omega);revert g3 d3 kf;generalize h2.set (h.z+4) (.loop .exhausted none tm [6,7] jl jk 245)=H3;intro g3 d3 kf;rw[Iq]at g3;simp only[go_sem,simprocAttr,Qe,t3,g3];exact⟨rfl,.inr rfl,_,ye d3,[wt (size t)],by simp only[go_sem,simprocAttr,r245],_,_,cC (by intro l e;cases e) (ba _ _ _),rfl,kf.set _ (by omega)⟩
mutual
def eh (by_:Int):T->Int->T
 |.mk k i nm ls ks,d=>if k=0 then (if i<d then .mk k i nm ls ks else .mk 0 (i+by_) (bs []) [] []) else .mk k i nm ls (eJ by_ k 0 ks d)
def eJ (by_ k:Int):Nat->List T->Int->List T
 |_,[],_=>[]
 |j,t::l,d=>eh by_ t (d+aV k j)::eJ by_ k (j+1) l d
end
theorem ta (by_ k:Int):∀(ks:List T) (j:Nat) (d:Int) (a:Nat),(eJ by_ k j ks d)[a]?=(ks[a]?).map fun t=>eh by_ t (d+aV k ((j+a:Nat):Int))
 |[],_,_,_=>by simp[eJ]
 |t::l,j,d,0=>by simp[eJ]
 |t::l,j,d,a+1=>by
  have ih:=ta by_ k l (j+1) d a;simp only[eJ,List.getElem?_cons_succ,ih];rw[show j+1+a=j+(a+1) by omega]
theorem nE (by_ k:Int):∀(ks:List T) (j:Nat) (d:Int),(eJ by_ k j ks d).length=ks.length
 |[],_,_=>rfl
 |t::l,j,d=>by simp[eJ,nE by_ k l (j+1) d]
theorem yJ (by_ k:Int)(ks:List T)(d:Int)(a:Nat)(t:T)(h:ks[a]?=some t):(eJ by_ k 0 ks d).take (a+1)=(eJ by_ k 0 ks d).take a++[eh by_ t (d+aV k a)]:=by
 rw[List.take_add_one,ta,h,wac];rfl
mutual
def Vb (M:Int):T->Prop
 |.mk k i _ _ ks=>(k=0->ks=[]/\0<=i/\i<=M)/\Vbs M ks
def Vbs (M:Int):List T->Prop
 |[]=>True
 |t::l=>Vb M t/\Vbs M l
end
theorem ve {M:Int}: ∀{ks:List T} {a:Nat} {t:T},Vbs M ks->ks[a]?=some t->Vb M t
 |t::l,0,_,h,e=>by cases e;exact h.1
 |t::l,a+1,_,h,e=>ve h.2 (by simpa using e)
structure KC (K:aG):Prop where
 r72:∀(k j:Int) h,K (.fn 72 [] []) [wt k,wt j] .no h=some (.ret (wt (aV k j)),.no,h)
theorem KC.c72 {K:aG}(kc:KC K)(m:Nat)(k j:Int)(h:AH):cS K m (.fn 72 [] []) [wt k,wt j] .no h=some (.ret (wt (aV k j)),.no,h):=
 dP (ae (ba _ _ _) (ae (ba _ _ _) (aB _))) (kc.r72 k j h) rfl m
theorem c131 {K:aG}(hK:bW K)(m w:Nat)(i:Int)(h:AH)(hi:i<=65535):
  ∃v h',cS K (m+1) (.fn 131 [] []) [.ptr w 0 0,wt i] .no h=some (.ret v,.no,h')/\v=enc (.mk 0 i (bs []) [] [])/\HK h h':=by
 refine cm hK cf131 (ae (dh _ _ _ _) (ae (ba _ _ _) (aB _))) ?_;have hb:decide (65535<i)=false:=by simp;omega
 unfold b131
 repeat' (first|simp only[go_sem,simprocAttr, *,RY,RW]|refine bV (fun _=>?_) fun _=>?_|refine cO (fun _=>?_) fun _=>?_|refine bP (fun _=>?_) fun _=>?_|refine bX (fun _=>?_) fun _=>?_|refine bZ (fun _=>?_) fun _=>?_)
 refine⟨rfl,rfl,.inr rfl,[.agg [_,_,_,_,_]],by simp only[go_sem,simprocAttr,r131];rfl,_,_,cC (by intro l e;cases e) (iG (lB (ls:=[]) (ks:=[]) rfl rfl) _),rfl,(HK.new _ _).set _ (Fv _)⟩
theorem Az {base:Nat}{h:AH}{V:AV}{l:List T}(k i:Int)(nm:ByteArray)(ls:List LL)(o:Own base 5 true h V (l.map enc)):
  ∃h',eT (.agg [wt k,wt i,.str nm,.ls (ls.map aK),V]) h=(enc (.mk k i nm ls l),h')/\h'.z=h.z/\∀j,j<base->h'.get j=h.get j:=by
 have key:∀x h',fS V h=(x,h')->x.norm=.ls (l.map enc)->eT (.agg [wt k,wt i,.str nm,.ls (ls.map aK),V]) h=(enc (.mk k i nm ls l),h'):=by
  intro x h' e hx;have e2:gH [wt k,wt i,.str nm,.ls (ls.map aK),V] h=([wt k,wt i,.str nm,.ls (ls.map aK),x],h'):=by
   simp only[gH,dM (show(AV.int .i64 k).free=true from rfl),dM (show(AV.int .i64 i).free=true from rfl),dM (show(AV.str nm).free=true from rfl),dM (show(AV.ls (ls.map aK)).free=true by simp only[AV.free];exact cL de ls),e]
  show((AV.agg (gH _ h).1).norm,(gH _ h).2)=_;rw[e2,lB (eC ls) hx]
 rcases own_shut o (fun h=>by cases h) with⟨rfl,e,e2⟩|⟨k',g,e1,e2,e3,e4⟩
 ·rw[List.map_eq_nil_iff]at e;subst e;exact⟨h,key _ _ e2 rfl,rfl,fun _ _=>rfl⟩
 ·exact⟨_,key _ _ e2 (eL l),co _ _ _,fun j hj=>an (by omega)⟩
structure kS (t:T)(h0 h:AH)(V:AV)(out:List T):Prop where
 b6:h.get h0.z=some (.box (au t))
 b10:h.get (h0.z+1)=some (.box [wt 0,wt 0,.str (bs []),.nl,.nl])
 own:Own (h0.z+2) 5 true h V (out.map enc)
 kw:HK h0 h
 nx:h0.z+2<=h.z
theorem kS.init (t:T)(h:AH):kS t h ((h.new (.box (au t))).new (.box [wt 0,wt 0,.str (bs []),.nl,.nl])) .nl []:=by
 refine⟨?_,?_,fD _ _ _ _,(HK.new _ _).add _,by simp only[ci];omega⟩
 ·rw[aJ (by rw[ci];omega),aE]
 ·rw[<-ci h (.box (au t)),aE]
theorem kS.up {t:T}{h0 h h':AH}{V:AV}{out:List T}(J:kS t h0 h V out)(k:HK h h'):kS t h0 h' V out:=by
 have:=J.nx;exact⟨(k.kw _ (by omega)).trans J.b6,(k.kw _ (by omega)).trans J.b10,bp J.own k.z (fun a _ q=>k.kw a q),J.kw.trans k,Nat.le_trans J.nx k.z⟩
theorem kS.add {t:T}{h0 h:AH}{V:AV}{out:List T}(J:kS t h0 h V out)(x:T)(hl:out.length<100000):
  ∃V' h',dO h 5 true [wt 0,wt 0,.str (bs []),.nl,.nl] 80 V (.clip [enc x])=some (V',h')/\kS t h0 h' V' (out++[x])/\AV.beq V' V'=true:=by
 have nx:=J.nx;obtain⟨V',h',e4,o4,n4,k4,_,_,_,k',g',hv,_⟩:=cV (bytes:=80) (x:=enc x) (z:=[wt 0,wt 0,.str (bs []),.nl,.nl]) J.own J.nx rfl (aZ x) (fu x) (gh x) (by rw[waa];omega) (by decide);refine⟨V',h',e4,⟨(k4 _ (by omega)).trans J.b6,(k4 _ (by omega)).trans J.b10,by rw[List.map_append];exact o4,⟨Nat.le_trans J.kw.z n4,fun k hk=>(k4 k (by omega)).trans (J.kw.kw k hk)⟩,by omega⟩,?_⟩;rw[hv];exact jF _ _ _ _ _
theorem kS.beq {t:T}{h0 h:AH}{V:AV}{out:List T}(J:kS t h0 h V out):AV.beq V V=true:=by
 obtain⟨_,⟨rfl,_⟩|⟨k,g,rfl,_⟩⟩:=J.own
 ·rfl
 ·exact jF _ _ _ _ _
def I118 (t:T)(by_ d:Int)(w:Nat)(h0:AH)(j:Nat)(fr:AF)(h:AH):Prop:=∃tm m V,m+j=t.K.length/\fr=⟨tm,⟨[],.no,none,118⟩⟩/\nth tm 0=.ptr w 0 0/\nth tm 2=wt by_/\nth tm 3=wt 0/\nth tm 4=wt d/\nth tm 6=.ptr h0.z 0 0/\nth tm 10=.ptr (h0.z+1) 0 0/\nth tm 11=V/\nth tm 12=wt (m:Int)/\kS t h0 h V ((eJ by_ t.kind 0 t.K d).take m)
theorem c118 {K:aG}(hK:bW K)(kc:KC K)(w:Nat)(by_:Int)(hb0:0<=by_)(hb1:by_<=30000):∀m t (d:Int) h,size t+1<=m->size t<=50000->Vb 30000 t->0<=d->d+size t<=1000000->
  ∃v h',cS K m (.fn 118 [] []) [.ptr w 0 0,enc t,wt by_,wt 0,wt d] .no h=some (.ret v,.no,h')/\v=enc (eh by_ t d)/\HK h h':=by
 intro m;induction m with
 |zero=>intro t d h hm;omega
 |succ m ih=>
  intro t d h hm h50 hv hd0 hd1;refine cm hK cf118 (ae (dh _ _ _ _) (ae (aP _ _) (ae (ba _ _ _) (ae (ba _ _ _) (ae (ba _ _ _) (aB _)))))) ?_;simp only[wab];have J0:=kS.init t h;rw[aA t];unfold b118;simp only[go_sem,simprocAttr];unfold au at J0;revert J0;generalize ((h.new (.box [wt t.kind,wt t.i,.str t.name,.ls (t.L.map aK),.ls (t.K.map enc)])).new (.box [wt 0,wt 0,.str (bs []),.nl,.nl]))=H;intro J0;have b6:=J0.b6;have b10:=J0.b10;unfold au at b6;have nx:=J0.nx;obtain⟨k,i,nm,ls,ks⟩:=t;have hsz:size (.mk k i nm ls ks)=1+aW ks:=by simp[size]
  have hlen:=bE ks;rw[hsz]at hm hd1 h50;obtain⟨hv0,hvk⟩:=hv;simp only[T.kind,T.i,T.name,T.L,T.K]at b6;have n1:¬h.z=h.z+1:=by omega
  simp only[go_sem,simprocAttr,ci,Sn,b6];by_cases hk:k=0
  ·obtain⟨rfl,hi0,hi1⟩:=hv0 hk;subst hk;have hw0:IntKind.wrap .i64 (0+d)=d:=by rw[Int.zero_add];exact br _ (by omega) (by omega)
   have hw1:IntKind.wrap .i64 (i+by_)=i+by_:=br _ (by omega) (by omega);simp only[go_sem,simprocAttr,b6,hw0];refine bj (fun hlt=>?_) (fun hge=>?_)
   ·have e:eh by_ (.mk 0 i nm ls []) d=.mk 0 i nm ls []:=by simp[eh,hlt]
    simp only[go_sem,simprocAttr,b6,b10];refine⟨rfl,rfl,.inr rfl,[.agg [_,_,_,_,_]],by simp only[go_sem,simprocAttr,acu];rfl,_,_,cC (by intro l e;cases e) (iG (lB (eC ls) (eL [])) _),by rw[e],J0.kw.set _ (by omega)⟩
   ·have e:eh by_ (.mk 0 i nm ls []) d=.mk 0 (i+by_) (bs []) [] []:=by simp[eh,hge]
    have hb:decide (i+by_<d)=false:=by simp;omega
    obtain⟨m,rfl⟩:∃m',m=m'+1:=⟨m-1,by omega⟩
    obtain⟨v,h2,e2,rfl,k2⟩:=c131 hK m w (i+by_) H (by omega);have b10':=(k2.kw (h.z+1) (by omega)).trans b10;have hst:=aQ b10' (.mk 0 (i+by_) (bs []) [] []);simp only[go_sem,simprocAttr,b6,hw0,hw1,hb,e2,hst];refine⟨rfl,rfl,.inr rfl,[.agg (au (.mk 0 (i+by_) (bs []) [] []))],by simp only[go_sem,simprocAttr,acu,au],_,_,cC (by intro l e;cases e) (by rw[<-cN];exact aP _ _),by rw[e],(J0.kw.trans k2).set _ (by omega)⟩
  ·have hk':decide (k=0)=false:=by simpa using hk
   have est:eh by_ (.mk k i nm ls ks) d=.mk k i nm ls (eJ by_ k 0 ks d):=by simp[eh,hk]
   simp only[go_sem,simprocAttr,hk',Sp,Sr];refine bD (I118 (.mk k i nm ls ks) by_ d w h) ks.length (by omega) ⟨_,0,.nl,wac _,rfl,by simp only[go_sem,simprocAttr],by simp only[go_sem,simprocAttr],by simp only[go_sem,simprocAttr],by simp only[go_sem,simprocAttr],by simp only[go_sem,simprocAttr],by simp only[go_sem,simprocAttr],by simp only[go_sem,simprocAttr],by simp only[go_sem,simprocAttr],J0⟩ ?_;clear b6 b10 nx J0 H;rintro j fr H ⟨tm,p,V,hp,rfl,t0,t2,t3,t4,t6,t10,t11,t12,J⟩;simp only[T.K,T.kind]at hp J;have b6:=J.b6;have b10:=J.b10;unfold au at b6;simp only[T.kind,T.i,T.name,T.L,T.K]at b6;have nx:=J.nx;unfold Ug;simp only[go_sem,simprocAttr,t6,t12,b6];refine bj (fun hlt=>?_) (fun hge=>?_)
   ·have hlt:p<ks.length:=by omega
    have hget:ks[p]?=some ks[p]:=wO hlt;have ha:=fun h=>aN aZ hget .i64 h
    have hbb:=mG k p;have hss:=ck hget;have hw:=aM p (by omega);have hw1:IntKind.wrap .i64 (d+aV k p)=d+aV k p:=br _ (by omega) (by omega);have c72:=fun h=>kc.c72 m k p h
    obtain⟨v,h2,e2,rfl,k2⟩:=ih ks[p] (d+aV k p) H (by omega) (by omega) (ve hvk hget) (by omega) (by omega);have J2:=J.up k2;obtain⟨V',h3,e3,J3,hbe⟩:=J2.add (eh by_ ks[p] (d+aV k p)) (by rw[List.length_take];omega);have hb0':=J.beq;rw[<-yJ by_ k ks d p _ hget]at J3;simp only[go_sem,simprocAttr,Sv,t0,t2,t3,t4,t6,t11,t12,b6,ha,c72,hw1,e2,rO,e3,hw];exact⟨j-1,by omega,_,p+1,V',by simp only[T.K];omega,rfl,by simp only[go_sem,simprocAttr, *],by simp only[go_sem,simprocAttr, *],by simp only[go_sem,simprocAttr, *],by simp only[go_sem,simprocAttr, *],by simp only[go_sem,simprocAttr, *],by simp only[go_sem,simprocAttr, *],by simp only[go_sem,simprocAttr, *],by simp only[go_sem,simprocAttr, *],J3⟩
   ·have:p=ks.length:=by omega
    subst this;rw[List.take_of_length_le (by rw[nE];exact Fv _)]at J;have b10:=J.b10;have hVc:V.cells=[V]/\V.lies=true:=by
     obtain⟨_,⟨rfl,_⟩|⟨k,g,rfl,_⟩⟩:=J.own<;>exact⟨rfl,rfl⟩
    have n2:¬h.z+1=h.z:=by omega
    simp only[go_sem,simprocAttr,Ss,Su,t6,t10,t11,b6,b10,hVc.1,hVc.2,n2];have o2:=bp (h':=(H.set h.z (.box [wt k,wt i,.str nm,.ls (ls.map aK),V])).set (h.z+1) (.box [wt k,wt i,.str nm,.ls (ls.map aK),V])) J.own (by simp only[co];exact Fv _) (fun a q _=>by rw[an (by omega),an (by omega)]);obtain⟨H3,e3,n3,k3⟩:=Az k i nm ls o2;refine⟨rfl,rfl,.inr rfl,[.agg [_,_,_,_,_]],by simp only[go_sem,simprocAttr,acu,t10],_,_,cC (by intro l e;cases e) e3,by rw[est],?_,?_⟩
    ·rw[n3];simp only[co];exact J.kw.z
    ·intro a ha;rw[k3 a (by omega),an (by omega),an (by omega)];exact J.kw.kw a ha
