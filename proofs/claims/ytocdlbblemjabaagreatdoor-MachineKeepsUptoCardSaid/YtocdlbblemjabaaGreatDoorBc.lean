/- MachineKeeps: entering a term (no condition). -/
import Derived.Test.YtocdlbblemjabaaGreatDoorBb
namespace Go.Proofs.YtocdlbblemjabaaGreatDoor
open Go.AG Go.AG.MK
theorem Wt {base:Nat}{H:AH}{V:AV}(k i:Int)(nm:ByteArray)(ls:List LL){dn:List Int}(o:Own base 1 false H V (dn.map AG.aO)):
  ∃ H',cE (.agg [i_ k,i_ i,.str nm,.ls (ls.map ba),V]) H=(aT ⟨k,i,nm,ls,dn⟩,H')/\H'.z=H.z/\∀ j,j<base->H'.get j=H.get j:=by
 have key:∀ x H',cP V H=(x,H')->x.norm=.ls (dn.map AG.aO)->cE (.agg [i_ k,i_ i,.str nm,.ls (ls.map ba),V]) H=(aT ⟨k,i,nm,ls,dn⟩,H'):=by
  intro x H' e hx;show((AV.agg (cC _ H).1).norm,(cC _ H).2)=_;have e3:cC [i_ k,i_ i,.str nm,.ls (ls.map ba),V] H=([i_ k,i_ i,.str nm,.ls (ls.map ba),x],H'):=by
   show(_::_::_::_::(cP V H).1 :: [],(cP V H).2)=_;rw[e];rfl
  rw[e3];simp[aT,AV.norm,AV.ald,bw fL,hx]
 rcases own_shut o (fun _=>rfl) with⟨rfl,e,e2⟩|⟨kk,g,e1,e2,e3,e4⟩
 ·rw[List.map_eq_nil_iff]at e;subst e;exact⟨H,key _ _ e2 rfl,rfl,fun _ _=>rfl⟩
 ·exact⟨_,key _ _ e2 (by simp only[AV.norm,bw fb]),alb _ _ _,fun j hj=>aB o_⟩
theorem kD {base sz:Nat}{agg:Bool}{h:AH}{V:AV}{out:List AV}(o:Own base sz agg h V out):AV.beq V V=true/\V.cells=[V]/\V.lies=true:=by
 obtain⟨_,⟨rfl,_⟩|⟨k,g,rfl,_⟩⟩:=o
 ·exact⟨rfl,rfl,rfl⟩
 ·exact⟨by simp[AV.beq],rfl,rfl⟩
theorem wR (h:AH)(a b c d e:AV)(k k':IntKind)(x y:Int)(s:ByteArray)(l:List AV):bT h [a,b,c,d,e] [(0,1,.int k x),(1,1,.int k' y),(2,1,.str s),(3,1,.ls l)]=.val (.agg [.int k x,.int k' y,.str s,.ls l,e]) h:=(rfl)
theorem du {h:AH}{k:Nat}{a b c d e:AV}(g:h.get k=some (.box [a,b,c,d,e]))(t:T):dQ (.ptr k 0 0) h 5 (enc t)=some (h.set k (.box (aJ t))):=by
 rw[aU];simp only[go_sem,simprocAttr,g];rfl
section
variable {K:aQ}{A:Ma}{B B1:Nat}{E:AV}
def I1144 (A:Ma)(B B1:Nat)(E:AV)(M:Ms)(k i:Int)(nm:ByteArray)(ls:List LL)(ks:List T)(h0:AH)(j:Nat)(fr:AF)(h:AH):Prop:=∃ tm p M' gN gF V dn,p+j=ks.length/\fr=⟨tm,⟨[],.no,none,144⟩⟩/\
 nth tm 0=.ptr A.a 0 0/\nth tm 5=.ptr (h0.z+1) 0 0/\nth tm 18=.ls (ks.map enc)/\nth tm 19=i_ (ks.length:Int)/\nth tm 20=i_ (p:Int)/\
 Gs A B B1 E M h0 h M' gN gF/\Sm M M'/\h.get (h0.z+1)=some (.box [i_ k,i_ i,.str nm,.ls (ls.map ba),V])/\Own (h0.z+2) 1 false h V (dn.map AG.aO)/\Lk M'.ts dn (ks.take p)/\h0.z+2<=h.z/\dn.length=p
theorem c1144 (hK:aZ K)(km:KM K):∀ (n:Nat) (t:T) (m:Nat) (M:Ms) (gN gF:Nat) (h:AH),size t<=n->2*n+10<=m->TOK t->St A B B1 E M gN gF h->Wg M->
  Mc K m A B B1 E (144) [] [.ptr A.a 0 0,enc t] M h fun M' v=>Px t M M' v:=by
 intro n;induction n with
 |zero=>intro t m M gN gF h hn;have:=bZ t;omega
 |succ n ih=>
 intro t m M gN gF h hn hm tok s g;obtain⟨m,rfl⟩:∃ k,m=k+1:=⟨m-1,o_⟩
 have b1:=s.b1;refine fG hK aja (ae (bD _ _ _ _) (ae (bR _ _) (aC _))) ?_;obtain⟨k,i,nm,ls,ks⟩:=t;have tok0:=tok;unfold TOK at tok;have hkl:ks.length<=3:=by
  have:=tok.1.K;unfold dW at this;split at this
  ·omega
  ·split at this
   ·omega
   ·split at this<;>omega
 rw[BI];unfold agm;simp only[go_sem,simprocAttr,JK,wR];simp only[ala];obtain⟨H,hH⟩:∃ H:AH,H=((h.new (.box [i_ k,i_ i,.str nm,.ls (ls.map ba),.ls (ks.map enc)])).new (.box [i_ 0,i_ 0,.str (bs []),.nl,.nl])).set (h.z+1) (.box [i_ k,i_ i,.str nm,.ls (ls.map ba),.nl]):=⟨_,rfl⟩
 rw[<- hH];have nH:H.z=h.z+2:=by rw[hH,alb,ala,ala]
 have kk:HK h H:=by rw[hH];exact(((HK.new _ _).add _).set _ o_)
 have g3:H.get h.z=some (.box [i_ k,i_ i,.str nm,.ls (ls.map ba),.ls (ks.map enc)]):=by rw[hH,aB o_,aL (by rw[ala];omega),aE]
 have g5:H.get (h.z+1)=some (.box [i_ k,i_ i,.str nm,.ls (ls.map ba),.nl]):=by rw[hH,aH]
 clear hH;simp only[go_sem,simprocAttr,JL,g3];refine bB (I1144 A B B1 E M k i nm ls ks h) ks.length o_ ⟨_,0,M,gN,gF,.nl,[],o_,rfl,k_,k_,k_,k_,k_,⟨s.hk kk,g,Le.refl M,HK.m kk⟩,Sm.refl M,g5,fp _ _ _ _,trivial,o_,rfl⟩ ?_;clear g3 g5 kk nH;rintro j fr H1 ⟨tm,p,M1,gN1,gF1,V,dn,hp,rfl,t0,t5,t18,t19,t20,⟨st,g',le,hm1⟩,sm,g5,o,lk,nx,dl⟩;unfold PF;simp only[go_sem,simprocAttr,t19,t20,JN];refine aX (fun hlt=>?_) (fun hge=>?_)
 ·have hlt:p<ks.length:=o_;have hget:ks[p]?=some ks[p]:=a_ hlt;have hmem:=m_ hget;have ha:=fun h=>aK bJ hget .i64 h
  have hsz:size ks[p]<=n:=by have:=cL hmem;simp only[size]at hn;omega
  have tk:=ly.1 tok.2 _ hmem;have hw:=aP p o_;revert ha hsz tk hget hmem;generalize ks[p]=x;intro hget hmem ha hsz tk;have hst:=du (h:=H1.new (.box [i_ 0,i_ 0,.str (bs []),.nl,.nl])) (k:=H1.z) (aE _ _) x;obtain⟨H2,hH2⟩:∃ H2:AH,H2=(H1.new (.box [i_ 0,i_ 0,.str (bs []),.nl,.nl])).set H1.z (.box (aJ x)):=⟨_,rfl⟩
  rw[<- hH2]at hst;have k2:HK H1 H2:=by rw[hH2];exact(HK.new _ _).set _ (e_ _)
  have g7:H2.get H1.z=some (.box (aJ x)):=by rw[hH2,aH]
  have nx2:H2.z=H1.z+1:=by rw[hH2,alb,ala]
  clear hH2;have g52:=(k2.kw _ o_).trans g5;have le1:=dN x;obtain⟨o3,H3,e3,hm3,q3⟩:=ih x m M1 gN1 gF1 H2 hsz o_ tk (st.hk k2) g';rw[aU]at e3;unfold aJ at g7;have o2:=cd o (h':=H2) k2.z (fun k q1 q2=>k2.kw k q2);have g53:=(hm3.kw _ o_ (.inr o_)).trans g52;have o3':=cd o2 (h':=H3) hm3.z (fun k q1 q2=>hm3.kw k q2 (.inr o_));simp only[go_sem,simprocAttr,JO,t0,t5,t18,t20,ha,le1,hst,g52,g7];rcases q3 with⟨v,rfl,M3,gN3,gF3,st3,g3,le3,sm3,r,rfl,a3⟩|rfl
  ·obtain⟨V4,H4,ea,o4,nx4,kk4,_⟩:=dD (x:=AG.aO r) (z:=[i_ 0]) (bytes:=8) o3' (by have:=hm3.z;omega) rfl rfl rfl rfl (by rw[L_];omega) (by decide);have ea:cU H3 1 false [i_ 0] 8 V (.clip [i_ r])=some (V4,H4):=ea;have g54:=(kk4 (h.z+1) o_).trans g53;have bq:=(kD o).1;obtain⟨_,v41,v42⟩:=kD o4;obtain⟨H5,hH5⟩:∃ H5:AH,H5=H4.set (h.z+1) (.box [i_ k,i_ i,.str nm,.ls (ls.map ba),V4]):=⟨_,rfl⟩
   simp only[go_sem,simprocAttr,e3,t5,g52,g53,bq,ea,g54,t20,hw,v41,v42];rw[<- hH5];have nx5:H5.z=H4.z:=by rw[hH5,alb]
   have nx3:=hm3.z;have e5:∀ k,k<h.z+1->H5.get k=H3.get k:=fun k q=>by rw[hH5,aB o_];exact kk4 k o_
   have hm5:HM B B1 h H5:=⟨o_,fun k q1 q2=>(e5 k o_).trans ((hm3.kw k o_ q2).trans ((k2.kw k o_).trans (hm1.kw k q1 q2)))⟩;have st5:St A B B1 E M3 gN3 gF3 H5:=st3.up o_ fun k q1 q2=>e5 k o_
   refine⟨j-1,o_,_,p+1,M3,gN3,gF3,V4,dn++[r],o_,rfl,q_ t0,q_ t5,q_ t18,q_ t19,k_,⟨st5,g3,le.trans le3,hm5⟩,sm.trans sm3,by rw[hH5,aH],?_,?_,o_,by simp[dl]⟩
   ·rw[List.map_append];exact cd o4 o_ (fun k q1 q2=>by rw[hH5,aB o_])
   ·rw[List.take_add_one,hget,Option.toList_some];exact(le3.lk lk).snoc a3
  ·have bq:=(kD o).1;simp only[go_sem,simprocAttr,e3,g52,bq];exact cB (hm1.trans ((HK.m k2).trans hm3))
 ·have hp':p=ks.length:=o_;subst hp';rw[List.take_length]at lk;obtain⟨H7,ec7,n7,k7⟩:=Wt k i nm ls o;have s7:St A B B1 E M1 gN1 gF1 H7:=st.up o_ fun j _ q=>k7 j o_
  obtain⟨o8,H8,e8,hm8,q8⟩:=Hq hK km (m-3) s7 g' ⟨k,i,nm,ls,dn⟩ ks lk tok0;rw[<- jo (f:=96) (c:=[]) (ae (bD A.a 0 0 H1) (ae ec7 (aC _))) (ae (bD _ _ _ _) (ae (jT _ _) (aC _))),show m-3+3=m by omega]at e8;have hm7:HM B B1 h H7:=⟨o_,fun j q1 q2=>(k7 j o_).trans (hm1.kw j q1 q2)⟩;simp only[go_sem,simprocAttr,JM,t0,t5,g5];rcases q8 with⟨v,rfl,M8,gN8,gF8,st8,g8,le8,sm8,r,rfl,a8⟩|rfl
  ·simp only[go_sem,simprocAttr,e8];exact fR (.inr rfl) (by simp only[go_sem,simprocAttr,ae2]) (hm7.trans hm8) ⟨M8,gN8,gF8,st8,g8,le.trans le8,sm.trans sm8,r,rfl,a8⟩
  ·simp only[go_sem,simprocAttr,e8];exact cB (hm7.trans hm8)
end
theorem Fs (l:List Int):fy (l.map AG.aO)=true:=by
 induction l with
 |nil=>rfl
 |cons a l ih=>show and true (fy (l.map AG.aO))=true;rw[ih];rfl
theorem vq (l:List Int):ew 1 (l.map AG.aO)=true:=by
 induction l with
 |nil=>rfl
 |cons a l ih=>show and (Nat.beq 1 1) (ew 1 (l.map AG.aO))=true;rw[ih];rfl
theorem ahl {base:Nat}{h:AH}{V:AV}{out:List Int}(o:Own base 1 false h V (out.map AG.aO))(hb:base<=h.z)(l:List Int)(hn:out.length+l.length<100000000000):
  ∃ V' h',cU h 1 false [i_ 0] 8 V (.ls (l.map AG.aO))=some (V',h')/\Own base 1 false h' V' ((out++l).map AG.aO)/\h.z<=h'.z/\(∀ k,k<base->h'.get k=h.get k)/\(∀ k g n,V'=.row k g 1 0 n->k=h.z∨∃ g n,V=.row k g 1 0 n)/\∀ k,k<h.z->(∀ g n,V≠.row k g 1 0 n)->h'.get k=h.get k:=by
 have e0:cU h 1 false [i_ 0] 8 V (.ls (l.map AG.aO))=List.casesOn (l.map AG.aO) (pS V h) fun y ys=>jw V h 1 false 8 (y::ys):=by
  show aD (cond (ew 1 (l.map AG.aO)) (some (l.map AG.aO)) none) (fun xs=>cond (and (fy xs) (Nat.beq (len ([i_ 0]:List AV)) 1)) _ _)=_;rw[vq];show cond (and (fy (l.map AG.aO)) true) _ _=_;rw[Fs];rfl
 obtain⟨o1,o2⟩:=o;cases l with
 |nil=>
  rw[A_];refine⟨V,h,?_,⟨o1,o2⟩,e_ _,fun _ _=>rfl,fun k g n e=>.inr ⟨g,n,e⟩,fun _ _ _=>rfl⟩;rw[e0];rcases o2 with⟨rfl,_⟩|⟨k,g,rfl,_⟩<;>rfl
 |cons a l=>
  have hneed:∀ n,n+(a::l).length<100000000000->need n ((a::l).map AG.aO).length 8=true:=by
   intro n hn;show and (Nat.ble ((2*(n+((a::l).map AG.aO).length)+1000)*8) 140737488355328) (Nat.ble (n+((a::l).map AG.aO).length) 9223372036854775807)=true;simp only[L_]at *;rw[fh o_,fh o_];rfl
  rcases o2 with⟨rfl,eo⟩|⟨k,g,rfl,q2,q3,q4⟩
  ·rw[List.map_eq_nil_iff]at eo;subst eo;refine⟨.row h.z 0 1 0 ((a::l).map AG.aO).length,h.new (.row 0 1 false (flat ((a::l).map AG.aO)) 0),?_,⟨jV _,.inr ⟨h.z,0,rfl,aE _ _,by rw[ala];omega,hb⟩⟩,by rw[ala];omega,fun k hk=>aL o_,fun k g n e=>.inl (by cases e;rfl),fun k hk _=>aL o_⟩;rw[e0];show cond (need 0 (len ((a::l).map AG.aO)) 8) (some (AV.row h.z 0 1 0 (len ((a::l).map AG.aO)),h.new (.row 0 1 false (flat ((a::l).map AG.aO)) 0))) none=_;rw[bH,hneed 0 (by simp only[List.length_nil]at hn;omega)];rfl
  ·have hfl:=kZ (mI out);have er:AG.iS h k g 1=some (false,flat (out.map AG.aO),0):=by
    unfold AG.iS;rw[q2,aI];show aD (some (g,1,false,flat (out.map AG.aO),0)) _=_;rw[aI];show cond (and (Nat.beq g g) (Nat.beq 1 1)) _ _=_;rw[eX,eX];rfl
   refine⟨.row k (g+1) 1 0 ((out.map AG.aO).length+((a::l).map AG.aO).length),h.set k (.row (g+1) 1 false (flat ((out++a::l).map AG.aO)) 0),?_,⟨jV _,.inr ⟨k,g+1,by simp,aH _ _ _,by rw[alb];exact q3,q4⟩⟩,by rw[alb];exact e_ _,fun j hj=>aB o_,fun k' g' n' e=>.inr (by cases e;exact⟨g,_,rfl⟩),fun j _ hj=>aB (fun e=>by subst e;exact hj g _ rfl)⟩;rw[e0];show cond (Nat.beq 1 1) (aD (AG.iS h k g 1) _) none=_;rw[eX,er,cond_true,aI];show cond (and (mq false false) (and (Nat.ble 0 ((0+(out.map AG.aO).length)*1)) (and (Nat.ble ((0+(out.map AG.aO).length)*1) (len (flat (out.map AG.aO)))) (need (out.map AG.aO).length (len ((a::l).map AG.aO)) 8))))
    (some (AV.row k (g+1) 1 0 ((out.map AG.aO).length+len ((a::l).map AG.aO)),h.set k (.row (g+1) 1 false (app (tke ((out.map AG.aO).length*1) (drp (0*1) (flat (out.map AG.aO)))) (flat ((a::l).map AG.aO))) (0-0*1)))) none=_
   have es:mq false false=true:=rfl;rw[es,bH,bH,hneed _ (by rw[L_];exact hn),fh (show 0<=(0+(out.map AG.aO).length)*1 by omega),fh (show(0+(out.map AG.aO).length)*1<=(flat (out.map AG.aO)).length by rw[hfl,z_];exact e_ _)];simp only[Nat.zero_mul,Nat.sub_self,gT,iB,fa,List.drop_zero];rw[<- hfl,List.take_length,<- fT,<- List.map_append];rfl
theorem appI {base:Nat}{h:AH}{V:AV}{out:List Int}(o:Own base 1 false h V (out.map AG.aO))(hb:base<=h.z)(l:List Int)(hn:out.length+l.length<100000000000):
  ∃ V' h',cU h 1 false [i_ 0] 8 V (.ls (l.map AG.aO))=some (V',h')/\Own base 1 false h' V' ((out++l).map AG.aO)/\h.z<=h'.z/\∀ k,k<base->h'.get k=h.get k:=by
 obtain⟨V',h',e1,e2,e3,e4,_⟩:=ahl o hb l hn;exact⟨V',h',e1,e2,e3,e4⟩
theorem Rt {base sz:Nat}{agg:Bool}{h h':AH}{V:AV}{out:List AV}(o:Own base sz agg h V out)(hn:h.z<=h'.z)(hk:∀ k g n,V=.row k g sz 0 n->base<=k->k<h.z->h'.get k=h.get k):Own base sz agg h' V out:=by
 obtain⟨o1,⟨rfl,e⟩|⟨k,g,rfl,q2,q3,q4⟩⟩:=o
 ·exact⟨o1,.inl ⟨rfl,e⟩⟩
 ·exact⟨o1,.inr ⟨k,g,rfl,(hk k g _ rfl q4 q3).trans q2,Nat.lt_of_lt_of_le q3 hn,q4⟩⟩
structure KG (K:aQ):Prop where
 zero:∀ h,K (.fn 107 [] []) [.nl,i_ 0] .no h=some (.ret .nl,.no,h)
 pos:∀ (n:Nat) h,0<n->n<=10000000000->K (.fn 107 [] []) [.nl,i_ (n:Int)] .no h=some (.ret (.row h.z 0 1 0 0),.no,h.new (.row 0 1 false [] 0))
theorem Ph {K:aQ}{f:Nat}{c a:List AV}{h:AH}{r:dH×RC×AH}(m:Nat)(e:K (.fn f [] c) a .no h=some r)(hn:niM.contains f=true:=by decide)(ho:noM.contains f=true:=by decide)(hd:dpM.contains f=false:=by decide):cS K m (.fn f [] c) a .no h=some r:=by
 have f1:fidIn niM (.fn f [] c)=true:=hn;have f2:fidIn noM (.fn f [] c)=true:=ho;cases m with
 |zero=>
  show inS niM K _ _ _ _=_;unfold inS;rw[f1];exact e
 |succ m=>
  show inS niM _ _ _ _ _=_;unfold inS;rw[f1];show zW noM _ _ _ _ _=_;unfold zW;rw[f2];simp only[kE (dp:=dpM) (f:=.fn f [] c) hd,e]
section
variable {K:aQ}
theorem VM (kg:KG K)(m n:Nat)(hn:n<=10000000000)(h:AH):∃ V h',cS K m (.fn 107 [] []) [.nl,i_ (n:Int)] .no h=some (.ret V,.no,h')/\Own h.z 1 false h' V (([]:List Int).map AG.aO)/\HK h h':=by
 rcases Nat.eq_zero_or_pos n with rfl|hp
 ·exact⟨.nl,h,Ph m (kg.zero h),fp _ _ _ _,HK.refl h⟩
 ·exact⟨_,_,Ph m (kg.pos n h hp hn),⟨by simp,.inr ⟨h.z,0,rfl,by rw[aE];rfl,by rw[ala];omega,e_ _⟩⟩,HK.new _ _⟩
def encZ (l:List Int):AV:=.ls (l.map AG.aO)
theorem Ir (ls:List (List Int))(h:AH):cE (.ls (ls.map encZ)) h=(.ls (ls.map encZ),h):=by
 have hf:∀ l,(encZ l).free=true:=fun l=>by simp only[encZ,AV.free];exact bE jc l
 rw[bG (by simp only[AV.free];exact bE hf ls)];simp only[AV.norm,bw (fun l=>(show(encZ l).norm=encZ l by simp only[encZ,AV.norm,bw fb]))]
def akG (h0:AH)(ls:List (List Int))(j:Nat)(fr:AF)(h:AH):Prop:=∃ tm p,p+j=ls.length/\fr=⟨tm,⟨[],.no,none,66⟩⟩/\h=h0/\nth tm 0=.ls (ls.map encZ)/\nth tm 3=i_ ((ls.take p).flatten.length:Int)/\nth tm 9=.ls (ls.map encZ)/\nth tm 10=i_ (ls.length:Int)/\nth tm 11=i_ (p:Int)
def akF (h0:AH)(ls:List (List Int))(j:Nat)(fr:AF)(h:AH):Prop:=∃ tm p V,p+j=ls.length/\fr=⟨tm,⟨[],.no,none,66⟩⟩/\HK h0 h/\nth tm 6=V/\Own h0.z 1 false h V ((ls.take p).flatten.map AG.aO)/\nth tm 25=.ls (ls.map encZ)/\nth tm 26=i_ (ls.length:Int)/\nth tm 27=i_ (p:Int)
theorem pc (ls:List (List Int)){p:Nat}{l:List Int}(h:ls[p]?=some l):(ls.take (p+1)).flatten=(ls.take p).flatten++l:=by rw[List.take_add_one,h];simp
theorem OT (ls:List (List Int))(p:Nat):(ls.take p).flatten.length<=ls.flatten.length:=by
 conv=>rhs;rw[<- List.take_append_drop p ls]
 rw[List.flatten_append,List.length_append];omega
theorem afK (hK:aZ K)(kg:KG K)(m:Nat)(ls:List (List Int))(hl:ls.flatten.length<10000000000)(hn:ls.length<1000)(h:AH):
  ∃ v h',cS K (m+1) (.fn 66 [] []) [.ls (ls.map encZ)] .no h=some (.ret v,.no,h')/\v=.ls (ls.flatten.map AG.aO)/\HK h h':=by
 refine bh hK ajH (ae (Ir _ _) (aC _)) ?_;simp only[A_];unfold agS;simp only[go_sem,simprocAttr,DZ,Ea];refine bB (akG h ls) ls.length o_ ⟨_,0,o_,rfl,rfl,k_,by simp only[go_sem,simprocAttr,List.take_zero,List.flatten_nil,List.length_nil],k_,k_,k_⟩ ?_;rintro j fr H ⟨tm,p,hp,rfl,rfl,t0,t3,t9,t10,t11⟩;unfold Qi;simp only[go_sem,simprocAttr,t10,t11,Mo];refine aX (fun hlt=>?_) (fun hge=>?_)
 ·have hlt:p<ls.length:=o_;have hget:ls[p]?=some ls[p]:=a_ hlt;have ha:=fun h=>aK (f:=encZ) (sz:=1) (fun _=>rfl) hget .i64 h
  have hfl:=pc ls hget;have hle:=OT ls (p+1);rw[hfl,List.length_append]at hle;have hw:IntKind.wrap .i64 (((ls.take p).flatten.length:Int)+(ls[p].length:Int))=((ls.take (p+1)).flatten.length:Int):=by rw[bI _ o_ o_,hfl,List.length_append];omega
  have hw2:=aP p o_;have hld:∀ h,cj (.vptr (encZ ls[p])) h false 1=some (.ls (ls[p].map AG.aO)):=fun h=>fI false 1 rfl rfl
  have hneg:decide (((ls.take (p+1)).flatten.length:Int)<0)=false:=d_;simp only[go_sem,simprocAttr,Mp,t9,t11,ha,hld,Mq,t3,L_,hw,Mr,hneg,hw2];exact⟨j-1,o_,_,p+1,o_,rfl,rfl,q_ t0,k_,q_ t9,q_ t10,k_⟩
 ·have hp':p=ls.length:=o_;subst hp';rw[List.take_length]at t3;obtain⟨V,H1,eg,og,kg1⟩:=VM kg m ls.flatten.length o_ H;simp only[go_sem,simprocAttr,Eb,t3,eg,Mk,t0];refine bB (akF H ls) ls.length o_ ⟨_,0,V,o_,rfl,kg1,k_,og,k_,k_,k_⟩ ?_;clear t0 t3 t9 t10 t11 eg og kg1;rintro j fr H2 ⟨tm,p,V,hp,rfl,k2,t6,o2,t25,t26,t27⟩;unfold Qh;simp only[go_sem,simprocAttr,t26,t27,Mm];refine aX (fun hlt=>?_) (fun hge=>?_)
  ·have hlt:p<ls.length:=o_;have hget:ls[p]?=some ls[p]:=a_ hlt;have ha:=fun h=>aK (f:=encZ) (sz:=1) (fun _=>rfl) hget .i64 h
   have hfl:=pc ls hget;have hle:=OT ls (p+1);rw[hfl,List.length_append]at hle;have hw2:=aP p o_;have hld:∀ h,cj (.vptr (encZ ls[p])) h false 1=some (.ls (ls[p].map AG.aO)):=fun h=>fI false 1 rfl rfl
   obtain⟨V3,H3,ea,o3,n3,kk3⟩:=appI o2 k2.z ls[p] o_;simp only[go_sem,simprocAttr,Mn,t25,t27,ha,hld,t6,ea,hw2];refine⟨j-1,o_,_,p+1,V3,o_,rfl,⟨Nat.le_trans k2.z n3,fun k q=>(kk3 k q).trans (k2.kw k q)⟩,k_,?_,q_ t25,q_ t26,k_⟩;rw[hfl];exact o3
  ·have hp':p=ls.length:=o_;subst hp';rw[List.take_length]at o2;obtain⟨H3,ec,hn3,hk3⟩:=rM o2;simp only[go_sem,simprocAttr,Ml,t6];refine⟨rfl,rfl,.inr rfl,[V],by simp only[go_sem,simprocAttr,afa],.ls (ls.flatten.map AG.aO),H3,?_,rfl,⟨by rw[hn3];exact k2.z,fun k q=>(hk3 k q).trans (k2.kw k q)⟩⟩;exact aS (by intro l e;have:=o2.2;rcases this with⟨rfl,_⟩|⟨_,_,rfl,_⟩<;>cases e) ec
end
def Wh (C:MK.Cx)(t u:T):Prop:=∃ n,wf C n t []=some u
theorem OK {C:MK.Cx}{l r:List T}(h:F2 (Rl C) l r):∃ n,jr (nf C n) l=some r:=by
 induction h with
 |nil=>exact⟨0,rfl⟩
 |cons a b ih=>
  obtain⟨n,hn⟩:=a;obtain⟨m,hm⟩:=ih;refine⟨max n m,?_⟩;unfold jr;rw[Cz (Nat.le_max_left n m) hn];simp only;rw[mg (fun t u q=>Cz (Nat.le_max_right n m) q) _ _ hm]
theorem ED {C:MK.Cx}{n m:Nat}(h:n<=m){l r:List T}(e:jr (nf C n) l=some r):jr (nf C m) l=some r:=mg (fun _t _u q=>Cz h q) _ _ e
structure Mem (C:MK.Cx)(M:Ms):Prop where
 w:∀ e∈M.w,∃ t u,At M.ts e.1 t/\At M.ts e.2 u/\Wh C t u
 n:∀ e∈M.n,∃ t u,At M.ts e.1 t/\At M.ts e.2 u/\Rl C t u
theorem Mem.up {C:MK.Cx}{M M':Ms}(m:Mem C M)(le:Le M M')(hw:M'.w=M.w)(hn:M'.n=M.n):Mem C M' where
 w e he:=by
  rw[hw]at he;obtain⟨t,u,a,b,c⟩:=m.w e he;exact⟨t,u,le.at a,le.at b,c⟩
 n e he:=by
  rw[hn]at he;obtain⟨t,u,a,b,c⟩:=m.n e he;exact⟨t,u,le.at a,le.at b,c⟩
structure Mx (C:MK.Cx)(M M':Ms):Prop where
 ct:Ct M'
 mem:Mem C M'
 vis:M.vis<=M'.vis
 con:M.con<=M'.con
theorem Sv.mx {C:MK.Cx}{M M':Ms}(s:Sv M M')(c:Ct M)(m:Mem C M)(le:Le M M'):Mx C M M':=⟨s.ct c,m.up le s.w s.n,s.vis,Int.le_of_eq s.con.symm⟩
theorem Mx.trans {C:MK.Cx}{a b c:Ms}(x:Mx C a b)(y:Mx C b c):Mx C a c:=⟨y.ct,y.mem,Int.le_trans x.vis y.vis,Int.le_trans x.con y.con⟩
theorem Mx.refl {C:MK.Cx}{M:Ms}(c:Ct M)(m:Mem C M):Mx C M M:=⟨c,m,Int.le_refl _,Int.le_refl _⟩
section
variable {K:aQ}{A:Ma}{B B1:Nat}{E:AV}{M:Ms}{gN gF:Nat}{h:AH}{C:MK.Cx}
def Fn1 (K:aQ)(A:Ma)(B B1:Nat)(E:AV)(C:MK.Cx)(m:Nat)(v0:Int)(f:AV)(R_:T->T->Prop):Prop:=∀ (M:Ms) (gN gF:Nat) (h:AH) (x:Int) (t:T),St A B B1 E M gN gF h->Wg M->Ct M->Mem C M->v0<=M.vis->At M.ts x t->
 ∃ o h',cS K m f [i_ x] .no h=some (o,.no,h')/\HM B B1 h h'/\((∃ v,o=.ret v/\Gq A B B1 E M h' fun M'=>Mx C M M'/\∃ r u,v=i_ r/\At M'.ts r u/\R_ t u)∨o=.pan pv)
structure J1073 (A:Ma)(B B1:Nat)(E:AV)(C:MK.Cx)(M:Ms)(nv:NV)(ks:List T)(b9 kk:Nat)(h0 h:AH)(M':Ms)(gN gF:Nat)(dn:List Int)(us:List T)(p:Nat):Prop where
 gs:Gs A B B1 E M h0 h M' gN gF
 mx:Mx C M M'
 g9:h.get b9=some (.box [i_ nv.kind,i_ nv.idx,.str nv.name,.ls (nv.L.map ba),.ls (nv.K.map AG.aO)])
 row:h.get kk=some (.row 0 1 false (flat ((dn++List.replicate (nv.K.length-p) 0).map AG.aO)) 0)
 lk:Lk M'.ts dn us
 f2:F2 (Rl C) (ks.take p) us
 pl:p<=nv.K.length
 nx:kk<h.z
 dl:dn.length=p
def akE (A:Ma)(B B1:Nat)(E:AV)(C:MK.Cx)(M:Ms)(nv:NV)(ks:List T)(f:AV)(args:List Int)(b9 kk:Nat)(h0:AH)(j:Nat)(fr:AF)(h:AH):Prop:=∃ tm p M' gN gF dn us,p+j=nv.K.length/\fr=⟨tm,⟨[],.no,none,73⟩⟩/\
 nth tm 0=.ptr A.a 0 0/\nth tm 2=f/\nth tm 8=.ls (args.map AG.aO)/\nth tm 9=.ptr b9 0 0/\nth tm 10=.row kk 0 1 0 nv.K.length/\nth tm 35=.ls (nv.K.map AG.aO)/\nth tm 36=i_ (nv.K.length:Int)/\nth tm 37=i_ (p:Int)/\
 J1073 A B B1 E C M nv ks b9 kk h0 h M' gN gF dn us p
def akD (A:Ma)(B B1:Nat)(E:AV)(C:MK.Cx)(M:Ms)(hd:T)(f:AV)(args:List Int)(ats:List T)(h0:AH)(j:Nat)(fr:AF)(h:AH):Prop:=∃ tm p M' gN gF r us,p+j=args.length/\fr=⟨tm,⟨[],.no,none,73⟩⟩/\
 nth tm 0=.ptr A.a 0 0/\nth tm 2=f/\nth tm 13=i_ r/\nth tm 54=.ls (args.map AG.aO)/\nth tm 55=i_ (args.length:Int)/\nth tm 56=i_ (p:Int)/\
 Gs A B B1 E M h0 h M' gN gF/\Mx C M M'/\At M'.ts r (cY hd us)/\F2 (Rl C) (ats.take p) us
theorem OW {R_:T->T->Prop}{l r:List T}{x y:T}(h:F2 R_ l r)(a:R_ x y):F2 R_ (l++[x]) (r++[y]):=Zb h (.cons a .nil)
theorem c1073 (hK:aZ K)(km:KM K){m:Nat}(hm:10<=m){v0:Int}{f:AV}(hf:Fn1 K A B B1 E C m v0 f (Rl C))(hcan:∀ h,cE f h=(f,h))(s:St A B B1 E M gN gF h)(g:Wg M)(c:Ct M)(mem:Mem C M)(hv:v0<=M.vis){x:Int}{t:T}(hx:At M.ts x t):
  Mc K (m+1) A B B1 E (73) [] [.ptr A.a 0 0,i_ x,f] M h fun M' v=>Mx C M M'/\∃ r u n,v=i_ r/\At M'.ts r u/\parts (nf C n) t=some u:=by
 have b1:=s.b1;refine fG hK ajF (ae (bD _ _ _ _) (ae (aG _ _ _) (ae (hcan _) (aC _)))) ?_;obtain⟨v,H1,e1,⟨hid,args,rfl,ah,lka,hal⟩,k1⟩:=TS hK (m-2) s g x t hx;rw[show m-2+2=m by omega]at e1;have s1:=s.hk k1;obtain⟨hn_,rfl,eh⟩:=ah.nat;obtain⟨nv,ks,hn,hht,lkn,hlt,tok,_⟩:=g.at_node ah;have hn:M.ns[hn_]?=some nv:=by simpa using hn
 have hj:hn_<M.ns.length:=(E_.1 hn).1;have cl:=s1.cell hn;have ad:=fun H=>s1.addr hj H
 have gA:=s1.gA;have l5:=cl.l5;unfold mL at gA;unfold aT at l5;unfold agQ;simp only[go_sem,simprocAttr,DU,e1,DW,gA,ad,l5];obtain⟨H2,hH2⟩:∃ H2:AH,H2=(H1.new (.box [i_ 0,i_ 0,.str (bs []),.nl,.nl])).set H1.z (.box [i_ nv.kind,i_ nv.idx,.str nv.name,.ls (nv.L.map ba),.ls (nv.K.map AG.aO)]):=⟨_,rfl⟩
 rw[<- hH2];have k2:HK H1 H2:=by rw[hH2];exact(HK.new _ _).set _ (e_ _)
 have g9:H2.get H1.z=some (.box [i_ nv.kind,i_ nv.idx,.str nv.name,.ls (nv.L.map ba),.ls (nv.K.map AG.aO)]):=by rw[hH2,aH]
 have nx2:H2.z=H1.z+1:=by rw[hH2,alb,ala]
 clear hH2;have nx1:=k1.z;have hkl:nv.K.length<=3:=by
  have:=(g.nok (m_ hn)).nd.K;unfold dW at this;split at this
  ·omega
  ·split at this
   ·omega
   ·split at this<;>omega
 have emk:=OH nv.K.length o_ H2;obtain⟨H3,hH3⟩:∃ H3:AH,H3=H2.new (.row 0 1 false (flat ((List.replicate nv.K.length (0:Int)).map AG.aO)) 0):=⟨_,rfl⟩
 rw[<- hH3]at emk;have k3:HK H2 H3:=by rw[hH3];exact HK.new _ _
 have g93:=(k3.kw _ o_).trans g9;have row3:H3.get H2.z=some (.row 0 1 false (flat ((List.replicate nv.K.length (0:Int)).map AG.aO)) 0):=by rw[hH3,aE]
 have nx3:H3.z=H2.z+1:=by rw[hH3,ala]
 clear hH3;have k13:=(k1.trans k2).trans k3;simp only[go_sem,simprocAttr,DX,g9,emk,DY,g93];refine bB (akE A B B1 E C M nv ks f args H1.z H2.z h) nv.K.length o_ ⟨_,0,M,gN,gF,[],[],o_,rfl,k_,k_,k_,k_,k_,k_,k_,k_,
  ⟨⟨s.hk k13,g,Le.refl M,HK.m k13⟩,Mx.refl c mem,g93,by simpa using row3,trivial,.nil,o_,o_,rfl⟩⟩ ?_
 rintro j fr H4 ⟨tm,p,M4,gN4,gF4,dn,us,hp,rfl,t0,t2,t8,t9,t10,t35,t36,t37,J⟩;have nxk:=J.nx;have dl:=J.dl;have g94:=J.g9;unfold Qf;simp only[go_sem,simprocAttr,t36,t37,Me];refine aX (fun hlt5=>?_) (fun hge5=>?_)
 ·have hlt5:p<nv.K.length:=o_;have hget:nv.K[p]?=some nv.K[p]:=a_ hlt5;obtain⟨y,ey,ay⟩:=lkn.get hget;have ha:=fun h=>aK (f:=AG.aO) (sz:=1) (fun _=>rfl) hget .i64 h
  have ele:=cu nv.K[p];have hw2:=aP p o_;have hi1:=fun H=>ju (kk:=H2.z) (g:=0) (sz:=1) hlt5 H .i64
  obtain⟨o5,H5,e5,hm5,q5⟩:=hf M4 gN4 gF4 H4 nv.K[p] y J.gs.st J.gs.g J.mx.ct J.mx.mem (Int.le_trans hv J.mx.vis) (J.gs.le.at ay);simp only[go_sem,simprocAttr,Mf,t2,t10,t35,t37,ha,ele];rcases q5 with⟨v,rfl,M5,gN5,gF5,st5,g5,le5,mx5,r,u,rfl,a5,n5⟩|rfl
  ·have row5:=(hm5.kw _ o_ (.inr o_)).trans J.row;have hst:=rJ (x:=AG.aO r) (a:=p) row5 (mI _) (by simp[dl];omega) rfl rfl;rw[<- List.map_set,Xa dn _ p r dl hlt5]at hst;have hst:dQ (.ptr H2.z 0 (p*1)) H5 1 (i_ r)=_:=hst;simp only[go_sem,simprocAttr,e5,hi1,hst,t37,hw2];have s7:=st5.set (.row 0 1 false (flat ((dn++[r]++List.replicate (nv.K.length-(p+1)) 0).map AG.aO)) 0) (k:=H2.z) o_;have hm7:HM B B1 h (H5.set H2.z (.row 0 1 false (flat ((dn++[r]++List.replicate (nv.K.length-(p+1)) 0).map AG.aO)) 0)):=(J.gs.hm.trans hm5).set _ (.inl o_);refine⟨j-1,o_,_,p+1,M5,gN5,gF5,dn++[r],us++[u],o_,rfl,q_ t0,q_ t2,q_ t8,q_ t9,q_ t10,q_ t35,q_ t36,k_,
    ⟨⟨s7,g5,J.gs.le.trans le5,hm7⟩,J.mx.trans mx5,?_,aH _ _ _,(le5.lk J.lk).snoc a5,?_,o_,by rw[alb];have:=hm5.z;omega,by simp[dl]⟩⟩
   ·rw[aB o_];exact(hm5.kw _ o_ (.inr o_)).trans g94
   ·rw[List.take_add_one,ey,Option.toList_some];exact OW J.f2 n5
  ·simp only[go_sem,simprocAttr,e5];exact cB (J.gs.hm.trans hm5)
 ·have hp5:p=nv.K.length:=by have:=J.pl;omega
  subst hp5;have row5:=J.row;rw[Nat.sub_self,List.replicate_zero,A_]at row5;have f2k:=J.f2;rw[lkn.len,List.take_length]at f2k;obtain⟨H6,hH6⟩:∃ H6:AH,H6=H4.set H1.z (.box [i_ nv.kind,i_ nv.idx,.str nv.name,.ls (nv.L.map ba),.row H2.z 0 1 0 nv.K.length]):=⟨_,rfl⟩
  have g6:H6.get H1.z=some (.box [i_ nv.kind,i_ nv.idx,.str nv.name,.ls (nv.L.map ba),.row H2.z 0 1 0 nv.K.length]):=by rw[hH6,aH]
  have row6:H6.get H2.z=some (.row 0 1 false (flat (dn.map AG.aO)) 0):=by rw[hH6,aB o_];exact row5
  obtain⟨H7,ec7,n7,k7⟩:=Ff nv.kind nv.idx nv.name nv.L dn (by rw[dl]) row6 (by rw[hH6,alb];exact nxk);have o6:∀ k,k≠H1.z->k≠H2.z->H7.get k=H4.get k:=fun k q1 q2=>by rw[k7 k q2,hH6,aB q1]
  have n75:H7.z=H4.z:=by rw[n7,hH6,alb]
  have nx4:=J.gs.hm.z;have s7:St A B B1 E M4 gN4 gF4 H7:=J.gs.st.up o_ fun k _ q=>o6 k o_ o_
  have hm7:HM B B1 h H7:=⟨o_,fun k q1 q2=>by rw[o6 k o_ o_];exact J.gs.hm.kw k q1 q2⟩;have tok7:TOK (ndT ⟨nv.kind,nv.idx,nv.name,nv.L,dn⟩ us):=by
   rw[hht]at tok;unfold ndT TOK at tok ⊢;refine⟨by rw[<- rD f2k];exact tok.1,ly.2 fun t ht=>?_⟩;obtain⟨j,hj⟩:=List.getElem?_of_mem ht;obtain⟨c',_,ac⟩:=J.lk.get' hj;exact J.gs.g.atok ac
  obtain⟨o8,H8,e8,hm8,q8⟩:=Hq hK km (m-3) s7 J.gs.g ⟨nv.kind,nv.idx,nv.name,nv.L,dn⟩ us J.lk tok7;rw[<- jo (f:=96) (c:=[]) (ae (bD A.a 0 0 H6) (ae ec7 (aC _))) (ae (bD _ _ _ _) (ae (jT _ _) (aC _))),show m-3+3=m by omega]at e8;simp only[go_sem,simprocAttr,LU,t9,t10,g94];rw[<- hH6];clear hH6;simp only[go_sem,simprocAttr,LW,t0,t9,g6];rcases q8 with⟨v,rfl,M8,gN8,gF8,st8,g8,le8,sm8,r,rfl,a8⟩|rfl
  ·simp only[go_sem,simprocAttr,e8,LX,t8];have mx8:Mx C M M8:=J.mx.trans ((sm8.v J.mx.ct).mx J.mx.ct J.mx.mem le8);refine bB (akD A B B1 E C M (ndT ⟨nv.kind,nv.idx,nv.name,nv.L,dn⟩ us) f args (bF t).2 h) args.length o_ ⟨_,0,M8,gN8,gF8,r,[],o_,rfl,q_ t0,q_ t2,k_,k_,k_,k_,⟨st8,g8,J.gs.le.trans le8,hm7.trans hm8⟩,mx8,a8,.nil⟩ ?_;rintro j fr H9 ⟨tm,p,M9,gN9,gF9,r9,us2,hp,rfl,t0,t2,t13,t54,t55,t56,⟨st9,g9',le9,hm9⟩,mx9,ar,f29⟩;unfold Qe;simp only[go_sem,simprocAttr,t55,t56,LZ];refine aX (fun hlt5=>?_) (fun hge5=>?_)
   ·have hlt5:p<args.length:=o_;have hget:args[p]?=some args[p]:=a_ hlt5;obtain⟨y,ey,ay⟩:=lka.get hget;have ha:=fun h=>aK (f:=AG.aO) (sz:=1) (fun _=>rfl) hget .i64 h
    have ele:=cu args[p];have hw2:=aP p o_;obtain⟨o5,H5,e5,hm5,q5⟩:=hf M9 gN9 gF9 H9 args[p] y st9 g9' mx9.ct mx9.mem (Int.le_trans hv mx9.vis) (le9.at ay);simp only[go_sem,simprocAttr,Mb,t0,t2,t13,t54,t56,ha,ele];rcases q5 with⟨v,rfl,M5,gN5,gF5,st5,g5,le5,mx5,r5,u,rfl,a5,n5⟩|rfl
    ·have tk:=IE (g5.atok (le5.at ar)) (g5.atok a5);obtain⟨o6,H6',e6,hm6,q6⟩:=TU (h:=H5) (TR hK km (m-4) st5 g5 4 [r9,r5] [cY (ndT ⟨nv.kind,nv.idx,nv.name,nv.L,dn⟩ us) us2,u] ⟨le5.at ar,a5,trivial⟩ tk) (ae (bD _ _ _ _) (ae (aG _ _ _) (ae (Zo r9 r5 H5) (aC _)))) (ae (bD _ _ _ _) (ae (aG _ _ _) (ae (dM _ _) (aC _)))) (HM.refl H5);rw[show m-4+4=m by omega]at e6;simp only[go_sem,simprocAttr,e5,qu,YU];rcases q6 with⟨v,rfl,M6,gN6,gF6,st6,g6',le6,sm6,r6,rfl,a6⟩|rfl
     ·simp only[go_sem,simprocAttr,e6,t56,hw2];have mx6:Mx C M5 M6:=(sm6.v mx5.ct).mx mx5.ct mx5.mem le6;refine⟨j-1,o_,_,p+1,M6,gN6,gF6,r6,us2++[u],o_,rfl,q_ t0,q_ t2,k_,q_ t54,q_ t55,k_,⟨st6,g6',(le9.trans le5).trans le6,(hm9.trans hm5).trans hm6⟩,(mx9.trans mx5).trans mx6,?_,?_⟩
      ·rw[qY];exact a6
      ·rw[List.take_add_one,ey,Option.toList_some];exact OW f29 n5
     ·simp only[go_sem,simprocAttr,e6];exact cB ((hm9.trans hm5).trans hm6)
    ·simp only[go_sem,simprocAttr,e5];exact cB (hm9.trans hm5)
   ·have hp9:p=args.length:=o_;subst hp9;rw[lka.len,List.take_length]at f29;obtain⟨n1,en1⟩:=OK f2k;obtain⟨n2,en2⟩:=OK f29;simp only[go_sem,simprocAttr,LY,t13];refine fR (.inr rfl) (by simp only[go_sem,simprocAttr,ae8]) hm9 ⟨M9,gN9,gF9,st9,g9',le9,mx9,r9,_,max n1 n2,rfl,ar,?_⟩;unfold parts;rw[hht];have e1:jr (nf C (max n1 n2)) (ndT nv ks).K=some us:=ED (Nat.le_max_left _ _) en1;rw[e1];simp only;rw[ED (Nat.le_max_right _ _) en2];rfl
  ·simp only[go_sem,simprocAttr,e8];exact cB (hm7.trans hm8)
end
