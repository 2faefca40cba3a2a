/- AbsGo: a slice that a call builds by appending (no condition). -/
import Derived.Test.YtocdlbblemjabaaGreatDoorAs
noncomputable section
namespace Go.AG
theorem fh {a b:Nat}(h:a<=b):Nat.ble a b=true:=Nat.ble_eq_true_of_le h
theorem eX (a:Nat):Nat.beq a a=true:=Nat.beq_refl a
def Own (base sz:Nat)(agg:Bool)(h:AH)(v:AV)(out:List AV):Prop:=
 (∀ x∈out,x.cells.length=sz/\x.isAgg=agg)/\((v=.nl/\out=[])∨∃ k g,v=.row k g sz 0 out.length/\h.get k=some (.row g sz agg (flat out) 0)/\k<h.z/\base<=k)
theorem kZ {sz:Nat}{out:List AV}(h:∀ x∈out,x.cells.length=sz):(flat out).length=out.length*sz:=dJ h
theorem get_new (h:AH)(x:fD)(k:Nat):(h.new x).get k=if k=h.z then some x else h.get k:=by
 cases h;exact Tr.get_put _ _ _ _
theorem ala (h:AH)(x:fD):(h.new x).z=h.z+1:=by cases h;rfl
theorem get_set (h:AH)(j:Nat)(x:fD)(k:Nat):(h.set j x).get k=if k=j then some x else h.get k:=by
 cases h;exact Tr.get_put _ _ _ _
theorem alb (h:AH)(j:Nat)(x:fD):(h.set j x).z=h.z:=by cases h;rfl
theorem aE (h:AH)(x:fD):(h.new x).get h.z=some x:=by rw[get_new,P_ rfl]
theorem aL {h:AH}{k:Nat}{x:fD}(hne:k≠h.z):(h.new x).get k=h.get k:=by rw[get_new,N_ hne]
theorem aH (h:AH)(j:Nat)(x:fD):(h.set j x).get j=some x:=by rw[get_set,P_ rfl]
theorem aB {h:AH}{j k:Nat}{x:fD}(hne:k≠j):(h.set j x).get k=h.get k:=by rw[get_set,N_ hne]
theorem low_new (h:AH)(x:fD):(h.new x).low=h.low:=by cases h;rfl
theorem low_set (h:AH)(j:Nat)(x:fD):(h.set j x).low=rZ j h.low:=by cases h;rfl
theorem ON {b k l:Nat}(h1:b<=k)(h2:b<=l):b<=rZ k l:=by
 unfold rZ;cases Nat.ble k l with
 |true=>exact h1
 |false=>exact h2
theorem yE (a b:Nat):rZ a b<=b:=by
 unfold rZ;cases hb:Nat.ble a b with
 |true=>exact eE hb
 |false=>exact e_ _
theorem dD {base sz bytes:Nat}{agg:Bool}{h:AH}{v x:AV}{out z:List AV}(o:Own base sz agg h v out)(hb:base<=h.z)(hz:z.length=sz)(hx:x.cells.length=sz)(ha:x.isAgg=agg)(hl:x.lies=true)
  (hn:out.length<100000) (hy:bytes<=1000) :
  ∃ v' h',cU h sz agg z bytes v (.clip [x])=some (v',h')/\Own base sz agg h' v' (out++[x])/\h.z<=h'.z/\(∀ k,k<base->h'.get k=h.get k)/\(∀ b,b<=base->b<=h.low->b<=h'.low)/\h'.low<=h.low/\(∀ k,k<h.z->(∀ g n,v≠.row k g sz 0 n)->h'.get k=h.get k)/\(∃ k g,v'=.row k g sz 0 (out.length+1)/\(v=.nl->k=h.z)/\(∀ k' g' n',v=.row k' g' sz 0 n'->k=k')):=by
 obtain⟨o1,o2⟩:=o;have hall:∀ y∈out++[x],y.cells.length=sz/\y.isAgg=agg:=by
  intro y hy;rcases List.mem_append.1 hy with h|h
  ·exact o1 y h
  ·simp at h;subst h;exact⟨hx,ha⟩
 have e0:cU h sz agg z bytes v (.clip [x])=jw v h sz agg bytes [x]:=by
  show aD (cond (and (Nat.beq (len x.cells) sz) true) (some [x]) none) (fun xs=>cond (and (fy xs) (Nat.beq (len z) sz)) _ _)=_;rw[bH,hx,eX];show cond (and (and x.lies true) (Nat.beq (len z) sz)) _ _=_;rw[hl,bH,hz,eX];rfl
 have hneed:∀ m,m<100000->need m 1 bytes=true:=by
  intro m hm;show and (Nat.ble ((2*(m+1)+1000)*bytes) 140737488355328) (Nat.ble (m+1) 9223372036854775807)=true;rw[fh (show m+1<=9223372036854775807 by omega),fh]
  ·rfl
  ·calc (2*(m+1)+1000)*bytes<=300000*1000:=Nat.mul_le_mul o_ hy
    _<=140737488355328:=by decide
 rw[e0];rcases o2 with⟨rfl,rfl⟩|⟨k,g,rfl,hk,hlt,hbk⟩
 ·refine⟨.row h.z 0 sz 0 1,h.new (.row 0 sz agg (flat [x]) 0),?_,⟨hall,.inr ⟨h.z,0,rfl,?_,?_,hb⟩⟩,?_,?_⟩
  ·show cond (need 0 1 bytes) _ _=_;rw[hneed 0 o_];rfl
  ·rw[get_new,P_ rfl];rfl
  ·rw[ala];omega
  ·rw[ala];omega
  ·refine⟨fun k hk=>by rw[get_new,N_ o_],fun b _ hb=>by cases h;exact hb,by cases h;exact e_ _,fun k hk _=>by rw[get_new,N_ o_],h.z,0,rfl,fun _=>rfl,fun _ _ _ e=>(by cases e)⟩
 ·have hfl:=kZ (fun x hx=>(o1 x hx).1);refine⟨.row k (g+1) sz 0 (out.length+1),h.set k (.row (g+1) sz agg (flat (out++[x])) 0),?_,⟨hall,.inr ⟨k,g+1,by simp,?_,?_,hbk⟩⟩,?_,?_⟩
  ·have er:iS h k g sz=some (agg,flat out,0):=by
    unfold iS;rw[hk,aI];show aD (some (g,sz,agg,flat out,0)) _=_;rw[aI];show cond (and (Nat.beq g g) (Nat.beq sz sz)) _ _=_;rw[eX,eX];rfl
   show cond (Nat.beq sz sz) (aD (iS h k g sz) _) none=_;rw[eX,er,cond_true,aI];show cond (and (mq agg agg) (and (Nat.ble 0 ((0+out.length)*sz)) (and (Nat.ble ((0+out.length)*sz) (len (flat out))) (need out.length 1 bytes))))
    (some (AV.row k (g+1) sz 0 (out.length+1),h.set k (.row (g+1) sz agg (app (tke (out.length*sz) (drp (0*sz) (flat out))) (flat [x])) (0-0*sz)))) none=_
   have es:mq agg agg=true:=by cases agg<;>rfl
   rw[es,hneed _ hn,bH,fh (show 0<=(0+out.length)*sz by omega),fh (show(0+out.length)*sz<=(flat out).length by rw[hfl,z_];exact e_ _)];simp only[Nat.zero_mul,Nat.sub_self,gT,iB,fa,List.drop_zero];rw[<- hfl,List.take_length,fT];rfl
  ·rw[get_set,P_ rfl]
  ·rw[alb];exact hlt
  ·rw[alb];exact e_ _
  ·have hl2:(h.set k (.row (g+1) sz agg (flat (out++[x])) 0)).low=rZ k h.low:=by cases h;rfl
   refine⟨fun k' hk'=>by rw[get_set,N_ o_],fun b hb hl=>?_,by rw[hl2];exact yE _ _,fun k' hk' hne=>by rw[get_set,N_ (fun e=>hne g out.length (by rw[e]))],k,g+1,rfl,fun e=>(by cases e),fun _ _ _ e=>(by cases e;rfl)⟩;rw[hl2];exact ON o_ hl
theorem qw {sz:Nat}{agg:Bool}(hs:agg=false->sz=1):∀ {out:List AV},(∀ x∈out,x.cells.length=sz/\x.isAgg=agg)->chunk agg sz out.length (flat out)=some out
 |[],_=>rfl
 |x::l,h=>by
  obtain⟨h1,h2⟩:=h x (by simp);have ih:=qw hs (out:=l) (fun y hy=>h y (by simp[hy]));rw[List.length_cons,vf,cw];have eg:rj agg sz 0 (x.cells++flat l)=some x:=by
   cases agg with
   |true=>
    rw[lK _ _ _ (by rw[List.length_append];omega),List.drop_zero,<- h1,List.take_left' rfl];cases x<;>simp[AV.isAgg,AV.cells]at h2 ⊢
   |false=>
    have:=hs rfl;subst this;rw[BE,je h2];rfl
  rw[eg,aI,fa,<- h1,List.drop_left' rfl,h1,ih];rfl
theorem cd {base sz:Nat}{agg:Bool}{h h':AH}{v:AV}{out:List AV}(o:Own base sz agg h v out)(hn:h.z<=h'.z)(hg:∀ k,base<=k->k<h.z->h'.get k=h.get k):Own base sz agg h' v out:=by
 obtain⟨o1,o2⟩:=o;refine⟨o1,?_⟩;rcases o2 with⟨rfl,rfl⟩|⟨k,g,rfl,hk,hlt,hbk⟩
 ·exact .inl ⟨rfl,rfl⟩
 ·exact .inr ⟨k,g,rfl,by rw[hg k hbk hlt];exact hk,o_,hbk⟩
theorem fp (base sz:Nat)(agg:Bool)(h:AH):Own base sz agg h .nl []:=⟨by simp,.inl ⟨rfl,rfl⟩⟩
theorem Ow {base sz:Nat}{agg:Bool}{h:AH}{v:AV}{out:List AV}(o:Own base sz agg h v out):lenOf v h 1=some out.length:=by
 obtain⟨_,⟨rfl,rfl⟩|⟨k,g,rfl,hk,hlt,hbk⟩⟩:=o<;>rfl
theorem dT (i:Nat)(x:AX)(tm:Tm)(sz:Nat):cD [(i,x)] tm sz=[(i*sz,sz,ev x tm)]:=(rfl)
theorem acv (h:AH)(x:Int):fY true false 1 [.int .i64 0] 1 [(0,1,.int .i64 x)] h=.val (.clip [.int .i64 x]) h:=(rfl)
theorem Vr (h:AH)(a b c d e a' b' c' d' e':AV):fY true true 5 [a',b',c',d',e'] 1 [(0,5,.agg [a,b,c,d,e])] h=.val (.clip [.agg [a,b,c,d,e]]) h:=(rfl)
theorem Vs (h:AH)(a b a' b':AV):fY true true 2 [a',b'] 1 [(0,2,.agg [a,b])] h=.val (.clip [.agg [a,b]]) h:=(rfl)
def sf (h:AH)(sz:Nat)(x i:AV):Option (AV×AH):=aD (BV x) fun n=>aD (lB i n) fun hb=>zi x h sz 0 hb
theorem Uy (h:AH)(sz:Nat)(x:AV)(tm:Tm)(i:AX):fq h sz x tm none (some i) none=sf h sz x (ev i tm):=(rfl)
theorem oU {α:Type}{f:α->AV}{sz:Nat}(hf:∀ x,(f x).cells.length=sz)(l:List α):ew sz (l.map f)=true:=by
 induction l with
 |nil=>rfl
 |cons a l ih=>rw[List.map_cons,uC,bH,hf,eX,ih];rfl
theorem vh {α:Type}{f:α->AV}(hf:∀ x,(f x).lies=true)(l:List α):fy (l.map f)=true:=by
 induction l with
 |nil=>rfl
 |cons a l ih=>rw[List.map_cons,De,hf,ih];rfl
theorem ot {α:Type}{f:α->AV}{sz:Nat}(hf:∀ x,(f x).cells.length=sz)(h:AH)(l:List α)(k:IntKind)(m:Nat)(hm:m<=l.length):sf h sz (.ls (l.map f)) (.int k (m:Int))=some (.ls ((l.take m).map f),h):=by
 show aD (aD (some m) fun m=>cond (Nat.ble m (len (l.map f))) (some m) none) (fun hb=>cond (ew sz (l.map f)) (some (AV.ls (tke (hb-0) (drp 0 (l.map f))),h)) none)=_;rw[aI,bH,L_,fh hm,cond_true,aI,oU hf,iB,fa];simp[List.map_take]
theorem Et {α:Type}: ∀ (xs cs ds:List α),xs.length=cs.length->over xs (cs++ds)=xs++ds
 |[],[],ds,_=>rfl
 |x::xs,c::cs,ds,h=>by
  rw[List.cons_append,mc,Et xs cs ds (by simpa using h)];rfl
theorem rP {sz:Nat}{x:AV}(hx:x.cells.length=sz):∀ {out:List AV} {a:Nat},(∀ y∈out,y.cells.length=sz)->a<out.length->setR (a*sz) x.cells (flat out)=flat (out.set a x)
 |y::l,0,h,_=>by
  rw[Nat.zero_mul,cw];show over x.cells (y.cells++flat l)=flat (x::l);rw[Et _ _ _ (by rw[hx,h y (by simp)]),cw]
 |y::l,a+1,h,ha=>by
  have ih:=rP hx (out:=l) (a:=a) (fun z hz=>h z (by simp[hz])) (by simpa using ha);rw[cw,List.set_cons_succ,cw,<- ih];have hy:=h y (by simp);have e:(a+1)*sz=y.cells.length+a*sz:=by rw[hy,Nat.succ_mul];omega
  rw[e];generalize y.cells=cs;generalize flat l=fs;clear ih e;induction cs with
  |nil=>simp
  |cons c cs ih=>rw[List.length_cons,show cs.length+1+a*sz=(cs.length+a*sz)+1 by omega,List.cons_append,gV,ih];rfl
 |[],_,_,ha=>by simp at ha
theorem FM {base sz:Nat}{h:AH}{v x:AV}{out:List AV}{a:Nat}(o:Own base sz true h v out)(ha:a<out.length)(hx1:x.cells.length=sz)(hx2:x.isAgg=true)(hx3:x.lies=true)(k:IntKind):
  ∃ p h',(∀ H,cz v H sz (.int k (a:Int))=.val p H)/\dQ p h sz x=some h'/\Own base sz true h' v (out.set a x)/\h'.z=h.z/\(∀ k,k<base->h'.get k=h.get k)/\(∀ b,b<=base->b<=h.low->b<=h'.low)/\h'.low<=h.low:=by
 obtain⟨o1,⟨rfl,rfl⟩|⟨kk,g,rfl,hk,hlt,hbk⟩⟩:=o
 ·simp at ha
 ·have hfl:=kZ (fun y hy=>(o1 y hy).1);have hset:=rP hx1 (fun y hy=>(o1 y hy).1) ha;refine⟨.ptr kk g (a*sz),h.set kk (.row g sz true (flat (out.set a x)) 0),fun H=>?_,?_,⟨fun y hy=>?_,.inr ⟨kk,g,by simp,?_,?_,hbk⟩⟩,alb _ _ _,fun k hk=>aB o_,fun b hb hl=>?_,?_⟩
  ·show okV (cond (Nat.beq sz sz) (aD (aD (some a) fun m=>cond (Nat.blt m out.length) (some m) none) fun n=>some (.ptr kk g (Nat.mul (Nat.add 0 n) sz))) none) H=_;have hb:Nat.blt a out.length=true:=Nat.ble_eq_true_of_le ha;rw[aI,hb,eX];show OpR.val (.ptr kk g (Nat.mul (Nat.add 0 a) sz)) H=_;congr 2;show(0+a)*sz=a*sz;rw[z_]
  ·rw[gU _ _ _ _ hx3 hx1,hk,aI];show aD (cond (and (Nat.beq g g) (and (Nat.ble 0 (a*sz)) (Nat.ble (a*sz+len x.cells) (len (flat out))))) (some (fD.row g sz true (setR (a*sz) x.cells (flat out)) 0)) none) _=_;have hle:a*sz+x.cells.length<=(flat out).length:=by
    rw[hfl,hx1]
    calc a*sz+sz=(a+1)*sz:=by rw[Nat.succ_mul]
     _<=out.length*sz:=Nat.mul_le_mul_right _ ha
   rw[eX,bH,bH,fh hle,hset];rfl
  ·rcases List.mem_or_eq_of_mem_set hy with h|h
   ·exact o1 y h
   ·rw[h];exact⟨hx1,hx2⟩
  ·rw[aH]
  ·rw[alb];exact hlt
  ·rw[low_set];exact ON o_ hl
  ·rw[low_set];exact yE _ _
theorem jS (z:AV):∀ n,flat (List.replicate n z)=rY n z.cells
 |0=>rfl
 |n+1=>by rw[List.replicate_succ,cw,jS z n,oV]
theorem UP {base sz bytes:Nat}{h:AH}{z:AV}(n:Nat)(k:IntKind)(hb:base<=h.z)(hz:z.cells.length=sz)(ha:z.isAgg=true)(hn:n<=100000)(hy:bytes<=1000):
  ∃ v h',fJ h true sz bytes z.cells (.int k (n:Int)) (.int k (n:Int))=some (v,h')/\Own base sz true h' v (List.replicate n z)/\h'.z=h.z+1/\(∀ k,k<h.z->h'.get k=h.get k)/\h'.low=h.low/\v.cells=[v]/\v.lies=true:=by
 refine⟨.row h.z 0 sz 0 n,h.new (.row 0 sz true (rY n z.cells) 0),?_,⟨fun y hy=>?_,.inr ⟨h.z,0,by simp,?_,?_,hb⟩⟩,ala _ _,fun k hk=>aL o_,low_new _ _,rfl,rfl⟩
 ·have e:lB (.int k (n:Int)) 9223372036854775807=some n:=by
   show aD (some n) (fun m=>cond (Nat.ble m 9223372036854775807) (some m) none)=_;have h1:n<=9223372036854775807:=o_;rw[aI,fh h1];rfl
  unfold fJ;rw[e,aI,aI];have h2:n*bytes<=140737488355328:=calc n*bytes<=100000*1000:=Nat.mul_le_mul hn hy
    _<=140737488355328:=by decide
  show cond (and (Nat.beq n n) (and (Nat.ble (n*bytes) 140737488355328) (Nat.beq (len z.cells) sz))) _ _=_;rw[eX,fh h2,bH,hz,eX];rfl
 ·rw[List.eq_of_mem_replicate hy];exact⟨hz,ha⟩
 ·rw[aE,jS]
 ·rw[ala];omega
def IQ (rs:List bK)(P:AV->AH->Prop)(e:AEx)(fr:AF)(h1:AH):Prop:=
 fr.cx.dfs=[]/\fr.cx.rc=.no/\(e=.normal∨e=.ret)/\∃ vs,hO rs fr.tm h1=some vs/\P (one vs) h1
theorem xQ {E:Env}{call:aQ}{n:Nat}{f:FuncId}{as:List AV}{h0:AH}{P:AV->AH->Prop}{nt:Nat}{rs:List bK}{body:aF}(hcf:E.cf f=some ⟨nt,rs,body⟩)(hp:E.pure f=false)
  (hR:R call n [.code body] (IQ rs P) .normal ⟨cT as,⟨[],.no,none,f⟩⟩ h0):∃ v h',lE E call n f as .no h0=some (.ret v,.no,h')/\P v h':=by
 obtain⟨e,⟨tm,⟨dfs,rc,rnd,fid⟩⟩,h,q,q1,q2,q3,vs,r1,r2⟩:=hR;replace q1:dfs=[]:=q1;replace q2:rc=.no:=q2;subst q1 q2;have q':evCode body call n ⟨cT as,⟨[],.no,none,f⟩⟩ (lowered (E.pure f) h0)=some (e,⟨tm,⟨[],.no,rnd,fid⟩⟩,h):=by rw[hp];exact q
 have key:aD (hO rs tm h) (fun vs=>Im (E.pure f) h0 h .no vs)=some (dH.ret (one vs),RC.no,h):=by rw[r1,aI,hp];rfl
 unfold lE;rw[hcf,aI];simp only[q',aI];rcases q3 with rfl|rfl
 ·exact⟨one vs,h,by rw[<- key];rfl,r2⟩
 ·exact⟨one vs,h,by rw[<- key];rfl,r2⟩
def HD (call:aQ)(h0:AH)(rs:List bK)(P:AV->AH->Prop)(e:AEx)(fr:AF)(h1:AH):Prop:=
 fr.cx.rc=.no/\(e=.normal∨e=.ret)/\kJ fr.cx.dfs call .returning h1=some (.returning,h1)/\∃ vs,hO rs fr.tm h1=some vs/\h0.z<=h1.low/\P (frz 4 h1 h0.z (one vs)) ⟨h1.z,h0.low,h0.objs⟩
theorem aiJ (d:Option Nat)(f:FuncId)(a b args:List AV)(tm:Tm)(ds:List DF)(rc:RC)(fid:FuncId)(h:AH):TN d (.fn f a b) args ⟨tm,⟨ds,rc,none,fid⟩⟩ h=some (.normal,⟨ez d tm (.tup []),⟨.call (.fn f a b) args::ds,rc,none,fid⟩⟩,h):=(rfl)
theorem Wp (f:FuncId)(a b:List AV):(AV.fn f a b).cells=[.fn f a b]:=(rfl)
theorem acy (f:FuncId)(a b:List AV):(AV.fn f a b).lies=true:=(rfl)
theorem SA (k:Nat):(AV.map k).cells=[.map k]:=(rfl)
theorem Vu (k:Nat):(AV.map k).lies=true:=(rfl)
theorem UL (a b:Nat)(x y:AV)(tm:Tm):oa [a,b] [x,y] tm=(tm.put a x).put b y:=(rfl)
theorem ahP (l:List AV):TV (.tup l)=some l:=(rfl)
theorem adm (h:AH)(z:List AV):bT h z []=.val (.agg z) h:=(rfl)
theorem adl (h:AH)(a b c d e:AV)(k k':IntKind)(x y:Int):bT h [a,b,c,d,e] [(0,1,.int k x),(1,1,.int k' y)]=.val (.agg [.int k x,.int k' y,c,d,e]) h:=(rfl)
theorem Rq (tm:Tm):eO [] tm=[]:=(rfl)
theorem FL (p:Nat×Nat×AX)(l:List (Nat×Nat×AX))(tm:Tm):eO (p::l) tm=(p.1,p.2.1,ev p.2.2 tm)::eO l tm:=(rfl)
theorem Ga (h:AH)(k g o:Nat):iK (.ptr k g o) h=.val (.ptr k g o) h:=(rfl)
def nM (k gn sz off n:Nat)(h:AH):Option (AV×AH):=
 aD (iS h k gn sz) fun r=>aD (chunk r.1 sz n (drp (off*sz) r.2.1)) fun es=>some (.ls es,h.set k (.row gn sz r.1 r.2.1 (max r.2.2 ((off+n)*sz))))
def cP (v:AV)(h:AH):AV×AH:=
 match v with
 |.row k gn sz off n=>(nM k gn sz off n h).getD (.row k gn sz off n,h)
 |v=>(v,h)
def cC:List AV->AH->List AV×AH
 |[],h=>([],h)
 |v::l,h=>((cP v h).1::(cC l (cP v h).2).1,(cC l (cP v h).2).2)
def py (v:AV)(h:AH):AV×AH:=
 match v with
 |.agg cs=>(.agg (cC cs h).1,(cC cs h).2)
 |v=>cP v h
section
variable {C:Cx}{g:Gh}{U:Nat->Option (List AV)}{h:AH}{w:World}
theorem DH (s:Sim C g U h w){v:AV}{u:Value}(hv:bA g v u):∃ g',Ext g g'/\Sim C g' U (cP v h).2 w/\bA g' (cP v h).1 u/\Low h (cP v h).2/\(cP v h).1.isCell=v.isCell/\(cP v h).2.z=h.z:=by
 have triv:∃ g',Ext g g'/\Sim C g' U h w/\bA g' v u/\Low h h/\v.isCell=v.isCell/\h.z=h.z:=⟨g,.refl g,s,hv,.refl _,rfl,rfl⟩
 cases v<;>try exact triv
 case row k gn sz off m=>
  cases e:nM k gn sz off m h with
  |none=>rw[show cP (.row k gn sz off m) h=(.row k gn sz off m,h) by simp only[cP,e,Option.getD_none]];exact triv
  |some p=>
   rw[show cP (.row k gn sz off m) h=p by simp only[cP,e,Option.getD_some]];obtain⟨r,hr,e⟩:=aA e;obtain⟨es,hes,e⟩:=aA e;cases e;obtain⟨lc,a,hl,hs,hle,hu,ha⟩:=hv.row_inv;obtain⟨r1,r2,r3,r4⟩:=mF s hl hr;obtain⟨q1,q2,us,t',q3,q4,q5,q6,q7,q8,q9⟩:=r4;rw[fa]at hes;have ch:=jX hes (da q7 _);obtain⟨ex,s'⟩:=s.shut (m:=(off+m)*sz) r1 r2 hl q3;refine⟨_,ex,s',?_,Low.set _ _ _,rfl,alb _ _ _⟩;rcases ha with rfl|⟨q,_⟩
   ·rw[hu];have hcl:=ch.le;simp only[List.length_drop]at hcl;have hmul:off*sz+m*sz=(off+m)*sz:=by rw[<- Nat.add_mul]
    by_cases hm:m=0
    ·subst hm;have:es=[]:=List.length_eq_zero_iff.1 ch.len;subst this;exact .lst0
    ·have hp:0<m*sz:=Nat.mul_pos o_ q2;refine .ls ch.size ?_ ch.len.symm (by rw[ch.len];omega) ?_
     ·rw[ch.flat];exact eR (da q7 _) _
     ·rw[ch.flat];refine eu.mk (us:=((((us.toList.drop lc.base).take r.2.1.length).drop (off*sz)).take (m*sz))) (((q6.mono ex).drop _).take _) fun i u hi=>?_
      have hi1:i<m*sz:=by
       rw[List.getElem?_take]at hi;split at hi
       ·assumption
       ·cases hi
      rw[List.getElem?_take,P_ hi1,List.getElem?_drop,List.getElem?_take]at hi;split at hi
      ·have:=Gh.fz_at g lc.block lc.base ((us.toList.drop lc.base).take ((off+m)*sz)) (i:=off*sz+i) (u:=u)
        (by rw[List.getElem?_take,P_ o_];exact hi)
       rw[<- Nat.add_assoc]at this;exact this
      ·cases hi
   ·subst q;have:es=[]:=List.length_eq_zero_iff.1 ch.len;subst this;rw[hu];exact .lst0
theorem we:∀ {l:List AV} {us:List Value} {g:Gh} {h:AH},Sim C g U h w->aY g l us->∃ g',Ext g g'/\Sim C g' U (cC l h).2 w/\aY g' (cC l h).1 us/\Low h (cC l h).2/\aR (cC l h).1=aR l/\(cC l h).2.z=h.z
 |[],_,g,h,s,hv=>⟨g,.refl g,s,hv,.refl _,rfl,rfl⟩
 |v::l,_,g,h,s,.cons hv ht=>by
  obtain⟨g1,e1,s1,v1,l1,c1,n1⟩:=DH s hv;obtain⟨g2,e2,s2,v2,l2,c2,n2⟩:=we s1 (ht.mono e1);exact⟨g2,e1.trans e2,s2,.cons (v1.mono e2) v2,l1.trans l2,by simp only[cC,bX,c1,c2],by simp only[cC,n2,n1]⟩
theorem Uz (s:Sim C g U h w){v:AV}{u:Value}(hv:bA g v u):∃ g',Ext g g'/\Sim C g' U (py v h).2 w/\bA g' (py v h).1 u/\Low h (py v h).2/\(py v h).2.z=h.z:=by
 cases v<;>first
  |(obtain⟨g',a,b,c,d,_,e⟩:=DH s hv;exact⟨g',a,b,c,d,e⟩)
  |skip
 case agg cs=>
  obtain⟨us,h1,h2,rfl⟩:=hv.agg_inv;obtain⟨g',a,b,c,d,e,f⟩:=we s h2;exact⟨g',a,b,.agg (by rw[e];exact h1) c,d,f⟩
end
theorem dw {v:AV}(hv:v.free=true)(h:AH):cP v h=(v,h):=by
 cases v<;>first|rfl|(simp[AV.free]at hv)
theorem uD:∀ {l:List AV},AV.ale l=true->∀ h,cC l h=(l,h)
 |[],_,_=>rfl
 |v::l,hv,h=>by
  simp only[AV.ale,Bool.and_eq_true]at hv;simp only[cC,dw hv.1,uD hv.2]
theorem FF {v:AV}(hv:v.free=true)(h:AH):py v h=(v,h):=by
 cases v<;>first|exact dw hv h|skip
 case agg cs=>simp only[py,uD (show AV.ale cs=true by simpa [AV.free] using hv)]
theorem own_shut {base sz:Nat}{agg:Bool}{h:AH}{v:AV}{out:List AV}(o:Own base sz agg h v out)(hs:agg=false->sz=1):
  (v=.nl/\out=[]/\cP v h=(.nl,h))∨∃ k g,v=.row k g sz 0 out.length/\cP v h=(.ls out,h.set k (.row g sz agg (flat out) (out.length*sz)))/\base<=k/\k<h.z:=by
 obtain⟨o1,⟨rfl,rfl⟩|⟨k,g,rfl,hk,hlt,hbk⟩⟩:=o
 ·exact .inl ⟨rfl,rfl,rfl⟩
 ·refine .inr ⟨k,g,rfl,?_,hbk,hlt⟩;have er:iS h k g sz=some (agg,flat out,0):=by
   unfold iS;rw[hk,aI];show aD (some (g,sz,agg,flat out,0)) _=_;rw[aI];show cond (and (Nat.beq g g) (Nat.beq sz sz)) _ _=_;rw[eX,eX];rfl
  have:nM k g sz 0 out.length h=some (.ls out,h.set k (.row g sz agg (flat out) (out.length*sz))):=by
   unfold nM;rw[er,aI,Nat.zero_mul,fa,List.drop_zero,qw hs o1,aI];simp
  simp only[cP,this,Option.getD_some]
def cE (v:AV)(h:AH):AV×AH:=((py v h).1.norm,(py v h).2)
def iw:List AV->AH->List AV×AH
 |[],h=>([],h)
 |v::l,h=>((cE v h).1::(iw l (cE v h).2).1,(iw l (cE v h).2).2)
def cG (v:AV)(h:AH):AV×AH:=
 match v with
 |.tup vs=>(.tup (iw vs h).1,(iw vs h).2)
 |v=>cE v h
section
variable {C:Cx}{g:Gh}{U:Nat->Option (List AV)}{h:AH}{w:World}
theorem Pc (s:Sim C g U h w){v:AV}{u:Value}(hv:bA g v u):∃ g',Ext g g'/\Sim C g' U (cE v h).2 w/\bA g' (cE v h).1 u/\Low h (cE v h).2/\(cE v h).2.z=h.z:=by
 obtain⟨g',a,b,c,d,e⟩:=Uz s hv;exact⟨g',a,b,c.norm,d,e⟩
theorem Bq:∀ {l:List AV} {us:List Value} {g:Gh} {h:AH},Sim C g U h w->aY g l us->∃ g',Ext g g'/\Sim C g' U (iw l h).2 w/\aY g' (iw l h).1 us/\Low h (iw l h).2/\(iw l h).2.z=h.z
 |[],_,g,h,s,hv=>⟨g,.refl g,s,hv,.refl _,rfl⟩
 |v::l,_,g,h,s,.cons hv ht=>by
  obtain⟨g1,e1,s1,v1,l1,n1⟩:=Pc s hv;obtain⟨g2,e2,s2,v2,l2,n2⟩:=Bq s1 (ht.mono e1);exact⟨g2,e1.trans e2,s2,.cons (v1.mono e2) v2,l1.trans l2,by simp only[iw,n2,n1]⟩
theorem adb (s:Sim C g U h w){v:AV}{u:Value}(hv:bA g v u):∃ g',Ext g g'/\Sim C g' U (cG v h).2 w/\bA g' (cG v h).1 u/\Low h (cG v h).2/\(cG v h).2.z=h.z:=by
 cases v<;>first
  |exact Pc s hv
  |skip
 case tup vs=>
  obtain⟨us,h2,rfl⟩:=hv.tup_inv;obtain⟨g',a,b,c,d,e⟩:=Bq s h2;exact⟨g',a,b,.tup c,d,e⟩
end
def fidIn (l:List Nat):AV->Bool
 |.fn f _ _=>l.contains f
 |_=>false
def inS (no:List Nat)(call:aQ):aQ:=fun f a rc h=>match fidIn no f with
 |true=>call f a rc h
 |false=>call f (iw a h).1 rc (iw a h).2
def uo:Option (dH×RC×AH)->Option (dH×RC×AH)
 |some (.ret v,rc,h)=>some (.ret (cG v h).1,rc,(cG v h).2)
 |r=>r
def zW (no:List Nat)(call:aQ):aQ:=fun f a rc h=>match fidIn no f with
 |true=>call f a rc h
 |false=>uo (call f a rc h)
theorem YZ {C:Cx}{no:List Nat}{K:aQ}(hK:cK C K):cK C (inS no K):=by
 intro f args rc h out rc' h' q;unfold inS at q;cases hf:fidIn no f with
 |true=>rw[hf]at q;exact hK f args rc h out rc' h' q
 |false=>
  rw[hf]at q;intro g U w fv us K' kind s hf ha hr hK';obtain⟨g1,e1,s1,v1,l1,n1⟩:=Bq s ha;obtain⟨d,fr0,hd,hent,g2,U2,w',x2,u2,s2,lo2,hrc,hland⟩:=hK _ _ _ _ _ _ _ q g1 U w fv us K' kind s1 (hf.mono e1) v1 (hr.mono e1) hK';exact⟨d,fr0,hd,hent,g2,U2,w',e1.trans x2,by rw[<- n1];exact u2,s2,l1.trans lo2,hrc,hland⟩
theorem ab8 {C:Cx}{no:List Nat}{K:aQ}(hK:cK C K):cK C (zW no K):=by
 intro f args rc h out rc' h' q;unfold zW at q;cases hf:fidIn no f with
 |true=>rw[hf]at q;exact hK f args rc h out rc' h' q
 |false=>
  rw[hf]at q;replace q:uo (K f args rc h)=some (out,rc',h'):=q;cases hk:K f args rc h with
  |none=>rw[hk]at q;cases q
  |some r=>
   obtain⟨o,rc1,h1⟩:=r;rw[hk]at q;cases o with
   |pan v=>exact hK f args rc h out rc' h' (by rw[hk];exact q)
   |ret v=>
    cases q;intro g U w fv us K' kind s hf ha hr hK';obtain⟨d,fr0,hd,hent,g2,U2,w',x2,u2,s2,lo2,hrc,hland⟩:=hK _ _ _ _ _ _ _ hk g U w fv us K' kind s hf ha hr hK';obtain⟨u,hv,st⟩:=hland;obtain⟨g3,e3,s3,v3,l3,n3⟩:=adb s2 hv;exact⟨d,fr0,hd,hent,g3,U2,w',x2.trans e3,u2,s3,lo2.trans l3,hrc.mono e3,u,v3,st⟩
section
variable {K:aQ}{E:Env}{N:Nat}{ni no:List Nat}{m:Nat}
theorem rC {call:aQ}{f:AV}{a a':List AV}{rc:RC}{h h':AH}(e:iw a h=(a',h'))(hn:fidIn ni f=false):inS ni call f a rc h=call f a' rc h':=by
 unfold inS;rw[hn,e]
theorem oL {v v':AV}{rc:RC}{h h':AH}(e:cG v h=(v',h')):uo (some (.ret v,rc,h))=some (.ret v',rc,h'):=by
 show some (dH.ret (cG v h).1,rc,(cG v h).2)=_;rw[e]
theorem US {v:AV}{rc:RC}{h:AH}: uo (some (.pan v,rc,h))=some (.pan v,rc,h):=rfl
end
theorem aC (h:AH):iw [] h=([],h):=rfl
theorem ae {v v':AV}{l l':List AV}{h h1 h2:AH}(e1:cE v h=(v',h1))(e2:iw l h1=(l',h2)):iw (v::l) h=(v'::l',h2):=by
 simp only[iw,e1,e2]
theorem bG {v:AV}(hv:v.free=true)(h:AH):cE v h=(v.norm,h):=by simp only[cE,FF hv]
theorem aG (k:IntKind)(n:Int)(h:AH):cE (.int k n) h=(.int k n,h):=rfl
theorem aW (b:Bool)(h:AH):cE (.bool b) h=(.bool b,h):=rfl
theorem gK (b:ByteArray)(h:AH):cE (.str b) h=(.str b,h):=rfl
theorem bD (k g o:Nat)(h:AH):cE (.ptr k g o) h=(.ptr k g o,h):=rfl
theorem dU (h:AH):cE .nl h=(.ls [],h):=rfl
theorem Ww (k:Nat)(h:AH):cE (.yld k) h=(.yld k,h):=rfl
theorem iR (f:FuncId)(a b:List AV)(h:AH):cE (.fn f a b) h=(.fn f (AV.ald a) (AV.ald b),h):=by simp[cE,py,cP,AV.norm]
theorem bz {l l':List AV}{h h':AH}(e:iw l h=(l',h')):cG (.tup l) h=(.tup l',h'):=by simp only[cG,e]
theorem aS {v:AV}{h:AH}{p:AV×AH}(hv:∀ l,v≠.tup l)(e:cE v h=p):cG v h=p:=by
 cases v<;>first|exact e|exact absurd rfl (hv _)
theorem UH {h:AH}{k gn sz off n fz:Nat}{agg:Bool}{cs es:List AV}(hk:h.get k=some (.row gn sz agg cs fz))(hc:chunk agg sz n (cs.drop (off*sz))=some es):
  cP (.row k gn sz off n) h=(.ls es,h.set k (.row gn sz agg cs (max fz ((off+n)*sz)))):=by
 have er:iS h k gn sz=some (agg,cs,fz):=by
  unfold iS;rw[hk,aI];show aD (some (gn,sz,agg,cs,fz)) _=_;rw[aI];show cond (and (Nat.beq gn gn) (Nat.beq sz sz)) _ _=_;rw[eX,eX];rfl
 have:nM k gn sz off n h=some (.ls es,h.set k (.row gn sz agg cs (max fz ((off+n)*sz)))):=by
  unfold nM;rw[er,aI,fa,hc,aI]
 simp only[cP,this,Option.getD_some]
section
variable {C:Cx}{g:Gh}{U:Nat->Option (List AV)}{h:AH}{w:World}
theorem Sim.recell (s:Sim C g U h w){k n sz fz:Nat}{agg:Bool}{cs cs':List AV}{l:Loc}{us:Array Value}{t:TypeId}(e:h.get k=some (.row n sz agg cs fz))(hu:U k=none)
  (hρ:g.ρ k n=some l) (hb:w.heap[l.block]?=some (.cells us t (0,0))) (hl:cs'.length=cs.length) (hc:aR cs'=true) (hv':aY g cs' ((us.toList.drop l.base).take cs.length)) :
  Sim C g U (h.set k (.row n sz agg cs' fz)) w:=by
 obtain⟨l0,h1,h2,h3⟩:=s.obj k _ e hu;have hρ':g.ρ k (lA (.row n sz agg cs fz))=some l:=hρ;rw[hρ']at h1;cases h1;obtain⟨hs,hp,us',t',e1,q1,q2,hv,ha,hn,hr⟩:=h3;rw[hb]at e1;cases e1;constructor
 ·exact s.frz
 ·intro j p q u;rw[AH.get_set]at q;by_cases hj:j=k
  ·subst hj;rw[P_ rfl]at q;cases q;exact⟨l,hρ,h2,hs,hp,us,t,hb,q1,by rw[hl];exact q2,by rw[hl];exact hv',hc,hn,hr⟩
  ·rw[N_ hj]at q;exact s.obj j p q u
 ·intro j p q;rw[AH.get_set]at q;rw[AH.alb];by_cases hj:j=k
  ·subst hj;exact s.lt _ _ e
  ·rw[N_ hj]at q;exact s.lt j p q
 ·intro j z q;obtain⟨y1,y2⟩:=s.unb j z q;have hj:j≠k:=fun x=>by rw[x,hu]at q;cases q
  exact⟨by rw[AH.get_set,N_ hj];exact y1,y2⟩
 ·intro j n' l' q;rw[AH.alb];exact s.rlt j n' l' q
 ·intro j j' p p' m' m'' hne q q' r r';rw[AH.get_set]at q q';by_cases hj:j=k
  ·by_cases hj':j'=k
   ·omega
   ·rw[N_ hj']at q';subst hj;rw[P_ rfl]at q;cases q;exact s.sep j j' _ p' m' m'' hne e q' r r'
  ·rw[N_ hj]at q;by_cases hj':j'=k
   ·subst hj';rw[P_ rfl]at q';cases q';exact s.sep j j' p _ m' m'' hne q e r r'
   ·rw[N_ hj']at q';exact s.sep j j' p p' m' m'' hne q q' r r'
 ·exact s.old
 ·exact s.sz
 ·exact s.tape
 ·exact s.os
 ·exact s.output
 ·exact s.ini
end
theorem QZ (v:AV)(h:AH){k n sz fz:Nat}{agg:Bool}{cs:List AV}(e:h.get k=some (.row n sz agg cs fz)):∃ fz',(cP v h).2.get k=some (.row n sz agg cs fz'):=by
 cases v<;>try exact⟨fz,e⟩
 case row k' gn sz' off m=>
  cases q:nM k' gn sz' off m h with
  |none=>rw[show cP (.row k' gn sz' off m) h=(.row k' gn sz' off m,h) by simp only[cP,q,Option.getD_none]];exact⟨fz,e⟩
  |some p=>
   rw[show cP (.row k' gn sz' off m) h=p by simp only[cP,q,Option.getD_some]];obtain⟨r,hr,q⟩:=aA q;obtain⟨es,hes,q⟩:=aA q;cases q;show ∃ fz',((h.set k' _).get k)=_
   rw[AH.get_set];by_cases hk:k=k'
   ·subst hk;rw[P_ rfl];unfold iS at hr;rw[e,aI]at hr;have hr:cond (and (Nat.beq gn n) (Nat.beq sz sz')) (some (agg,cs,fz)) none=some r:=hr;cases hc:and (Nat.beq gn n) (Nat.beq sz sz') with
    |false=>rw[hc]at hr;cases hr
    |true=>
     rw[hc]at hr;have hr:some (agg,cs,fz)=some r:=hr;cases hr;obtain⟨c1,c2⟩:=Bool.and_eq_true_iff.1 hc;have c1:=Nat.eq_of_beq_eq_true c1;have c2:=Nat.eq_of_beq_eq_true c2;subst c1;subst c2;exact⟨_,rfl⟩
   ·rw[N_ hk];exact⟨fz,e⟩
theorem yj:∀ (l:List AV) (h:AH) {k n sz fz:Nat} {agg:Bool} {cs:List AV},h.get k=some (.row n sz agg cs fz)->∃ fz',(cC l h).2.get k=some (.row n sz agg cs fz')
 |[],h,_,_,_,fz,_,_,e=>⟨fz,e⟩
 |v::l,h,_,_,_,_,_,_,e=>by
  obtain⟨fz',e'⟩:=QZ v h e;exact yj l (cP v h).2 e'
def lM (v:AV)(h:AH):AH:=
 match v with
 |.row k _ _ _ _=>match h.get k with
  |some (.row n sz agg cs _)=>match (cC cs h).2.get k with
   |some (.row _ _ _ _ fz)=>(cC cs h).2.set k (.row n sz agg (cC cs h).1 fz)
   |_=>h
  |_=>h
 |_=>h
def CQ:List AV->AH->AH
 |[],h=>h
 |v::l,h=>CQ l (lM v h)
def Ho (v:AV)(h:AH):AH:=
 match v with
 |.agg cs=>CQ cs h
 |v=>lM v h
def CP:List AV->AH->AH
 |[],h=>h
 |v::l,h=>CP l (Ho v h)
def xh (v:AV)(h:AH):AH:=
 match v with
 |.tup vs=>CP vs h
 |v=>Ho v h
section
variable {C:Cx}{g:Gh}{U:Nat->Option (List AV)}{h:AH}{w:World}
theorem yk:∀ (l:List AV) (h:AH),(cC l h).1.length=l.length
 |[],_=>rfl
 |v::l,h=>by simp only[cC,List.length_cons,yk l]
theorem Fe (s:Sim C g U h w)(v:AV):∃ g',Ext g g'/\Sim C g' U (lM v h) w/\Low h (lM v h)/\(lM v h).z=h.z:=by
 have triv:∃ g',Ext g g'/\Sim C g' U h w/\Low h h/\h.z=h.z:=⟨g,.refl g,s,.refl _,rfl⟩
 cases v<;>try exact triv
 case row k a b c d=>
  cases e:h.get k with
  |none=>rw[show lM (.row k a b c d) h=h by simp only[lM,e]];exact triv
  |some o=>
   cases o with
   |row n sz agg cs fz=>
    obtain⟨fz',e'⟩:=yj cs h e;rw[show lM (.row k a b c d) h=(cC cs h).2.set k (.row n sz agg (cC cs h).1 fz') by simp only[lM,e,e']];have hu:U k=none:=by
     cases q:U k with
     |none=>rfl
     |some z=>have:=(s.unb k z q).1;rw[e]at this;cases this
    obtain⟨l,h1,h2,h3⟩:=s.obj k _ e hu;obtain⟨hs,hp,us,t,e1,q1,q2,hv,ha,hn,hr⟩:=h3;obtain⟨g',x,s',v',lo,al,nx⟩:=we s hv;have hρ:g'.ρ k n=some l:=x.ρ _ _ _ h1;exact⟨g',x,s'.recell e' hu hρ e1 (yk _ _) (by rw[al];exact ha) v',lo.trans (Low.set _ _ _),by rw[alb,nx]⟩
   |_=>rw[show lM (.row k a b c d) h=h by simp only[lM,e]];exact triv
theorem Fa:∀ (l:List AV) {g:Gh} {h:AH},Sim C g U h w->∃ g',Ext g g'/\Sim C g' U (CQ l h) w/\Low h (CQ l h)/\(CQ l h).z=h.z
 |[],g,h,s=>⟨g,.refl g,s,.refl _,rfl⟩
 |v::l,g,h,s=>by
  obtain⟨g1,x1,s1,l1,n1⟩:=Fe s v;obtain⟨g2,x2,s2,l2,n2⟩:=Fa l s1;exact⟨g2,x1.trans x2,s2,l1.trans l2,by rw[CQ,n2,n1]⟩
theorem Fb (s:Sim C g U h w)(v:AV):∃ g',Ext g g'/\Sim C g' U (Ho v h) w/\Low h (Ho v h)/\(Ho v h).z=h.z:=by
 have key:=Fe s v;cases v<;>first
  |exact key
  |exact Fa _ s
theorem EZ:∀ (l:List AV) {g:Gh} {h:AH},Sim C g U h w->∃ g',Ext g g'/\Sim C g' U (CP l h) w/\Low h (CP l h)/\(CP l h).z=h.z
 |[],g,h,s=>⟨g,.refl g,s,.refl _,rfl⟩
 |v::l,g,h,s=>by
  obtain⟨g1,x1,s1,l1,n1⟩:=Fb s v;obtain⟨g2,x2,s2,l2,n2⟩:=EZ l s1;exact⟨g2,x1.trans x2,s2,l1.trans l2,by rw[CP,n2,n1]⟩
theorem Wi (s:Sim C g U h w)(v:AV):∃ g',Ext g g'/\Sim C g' U (xh v h) w/\Low h (xh v h)/\(xh v h).z=h.z:=by
 have key:=Fb s v;cases v<;>first
  |exact key
  |exact EZ _ s
end
def Hk:Option (dH×RC×AH)->Option (dH×RC×AH)
 |some (.ret v,rc,h)=>some (.ret v,rc,xh v h)
 |r=>r
def ZL (dp:List Nat)(call:aQ):aQ:=fun f a rc h=>match fidIn dp f with
 |true=>Hk (call f a rc h)
 |false=>call f a rc h
theorem ab9 {C:Cx}{dp:List Nat}{K:aQ}(hK:cK C K):cK C (ZL dp K):=by
 intro f args rc h out rc' h' q;unfold ZL at q;cases hf:fidIn dp f with
 |false=>rw[hf]at q;exact hK f args rc h out rc' h' q
 |true=>
  rw[hf]at q;replace q:Hk (K f args rc h)=some (out,rc',h'):=q;cases hk:K f args rc h with
  |none=>rw[hk]at q;cases q
  |some r=>
   obtain⟨o,rc1,h1⟩:=r;rw[hk]at q;cases o with
   |pan v=>exact hK f args rc h out rc' h' (by rw[hk];exact q)
   |ret v=>
    cases q;intro g U w fv us K' kind s hf ha hr hK';obtain⟨d,fr0,hd,hent,g2,U2,w',x2,u2,s2,lo2,hrc,hland⟩:=hK _ _ _ _ _ _ _ hk g U w fv us K' kind s hf ha hr hK';obtain⟨u,hv,st⟩:=hland;obtain⟨g3,e3,s3,l3,n3⟩:=Wi s2 v;exact⟨d,fr0,hd,hent,g3,U2,w',x2.trans e3,u2,s3,lo2.trans l3,hrc.mono e3,u,hv.mono e3,st⟩
def mJ (K:aQ)(E:Env)(N:Nat)(ni no dp:List Nat):Nat->aQ
 |0=>inS ni K
 |m+1=>inS ni (zW no (ZL dp (fun f a rc h=>match K f a rc h with
  |some r=>some r
  |none=>wZ f E (mJ K E N ni no dp m) N a rc h)))
theorem OI {C:Cx}{K:aQ}{E:Env}(hE:Dk C E)(hK:cK C K)(N:Nat)(ni no dp:List Nat):∀ m,cK C (mJ K E N ni no dp m)
 |0=>YZ hK
 |m+1=>by
  refine YZ (ab8 (ab9 ?_));intro f args rc h out rc' h' q;cases hk:K f args rc h with
  |some r=>
   simp only[hk]at q;exact hK f args rc h out rc' h' (by rw[hk];exact q)
  |none=>
   simp only[hk]at q;exact abx hE (OI hE hK N ni no dp m) N f args rc h out rc' h' q
section
variable {K:aQ}{E:Env}{N:Nat}{ni no dp:List Nat}{m:Nat}
theorem kE {call:aQ}{f:AV}{a:List AV}{rc:RC}{h:AH}(hd:fidIn dp f=false):ZL dp call f a rc h=call f a rc h:=by
 unfold ZL;rw[hd]
theorem acs {f:AV}{a a':List AV}{rc:RC}{h h':AH}(e:iw a h=(a',h'))(e':iw a' h'=(a',h'))(hn:fidIn ni f=false):mJ K E N ni no dp m f a rc h=mJ K E N ni no dp m f a' rc h':=by
 have key:∀ call:aQ,inS ni call f a rc h=inS ni call f a' rc h':=by
  intro call;unfold inS;rw[hn,e];show call f a' rc h'=call f (iw a' h').1 rc (iw a' h').2;rw[e']
 cases m with
 |zero=>exact key _
 |succ m=>exact key _
theorem Gc {f:AV}{a a':List AV}{rc:RC}{h h1:AH}{v:AV}{rc':RC}{h':AH}(e0:iw a h=(a',h1))(hn:fidIn ni f=false)(hd:fidIn dp f=false)(e:K f a' rc h1=some (.ret v,rc',h'))(hv:cG v h'=(v,h')):mJ K E N ni no dp m f a rc h=some (.ret v,rc',h'):=by
 have ho:uo (some (dH.ret v,rc',h'))=some (dH.ret v,rc',h'):=by
  show some (dH.ret (cG v h').1,rc',(cG v h').2)=_;rw[hv]
 cases m with
 |zero=>exact(rC e0 hn).trans e
 |succ m=>
  refine(rC e0 hn).trans ?_;unfold zW;cases fidIn no f with
  |true=>simp only[kE hd,e]
  |false=>simp only[kE hd,e];exact ho
theorem EA {f:FuncId}{c a a':List AV}{rc:RC}{h h1:AH}(e0:iw a h=(a',h1))(hn:fidIn ni (.fn f [] c)=false)(hd:fidIn dp (.fn f [] c)=false)(hk:K (.fn f [] c) a' rc h1=none):
  mJ K E N ni no dp (m+1) (.fn f [] c) a rc h=cond (fidIn no (.fn f [] c)) (lE E (mJ K E N ni no dp m) N f (a'++c) rc h1) (uo (lE E (mJ K E N ni no dp m) N f (a'++c) rc h1)):=by
 have ev:wZ (.fn f [] c) E (mJ K E N ni no dp m) N a' rc h1=lE E (mJ K E N ni no dp m) N f (a'++c) rc h1:=by
  show lE E _ N f (app [] (app a' c)) rc h1=_;rw[gT,gT];rfl
 refine(rC e0 hn).trans ?_;unfold zW;cases fidIn no (.fn f [] c) with
 |true=>simp only[kE hd,hk,ev];rfl
 |false=>simp only[kE hd,hk,ev];rfl
theorem RR {f:FuncId}{c a a':List AV}{rc:RC}{h h1:AH}(e0:iw a h=(a',h1))(hn:fidIn ni (.fn f [] c)=false)(ho:fidIn no (.fn f [] c)=false)(hd:fidIn dp (.fn f [] c)=true)(hk:K (.fn f [] c) a' rc h1=none):
  mJ K E N ni no dp (m+1) (.fn f [] c) a rc h=uo (Hk (lE E (mJ K E N ni no dp m) N f (a'++c) rc h1)):=by
 have ev:wZ (.fn f [] c) E (mJ K E N ni no dp m) N a' rc h1=lE E (mJ K E N ni no dp m) N f (a'++c) rc h1:=by
  show lE E _ N f (app [] (app a' c)) rc h1=_;rw[gT,gT];rfl
 refine(rC e0 hn).trans ?_;unfold zW;rw[ho];unfold ZL;rw[hd];simp only[hk,ev]
theorem Vo {f:FuncId}{c a:List AV}{rc:RC}{h:AH}(hn:fidIn ni (.fn f [] c)=true)(hd:fidIn dp (.fn f [] c)=false)(hk:K (.fn f [] c) a rc h=none):
  mJ K E N ni no dp (m+1) (.fn f [] c) a rc h=cond (fidIn no (.fn f [] c)) (lE E (mJ K E N ni no dp m) N f (a++c) rc h) (uo (lE E (mJ K E N ni no dp m) N f (a++c) rc h)):=by
 have ev:wZ (.fn f [] c) E (mJ K E N ni no dp m) N a rc h=lE E (mJ K E N ni no dp m) N f (a++c) rc h:=by
  show lE E _ N f (app [] (app a c)) rc h=_;rw[gT,gT];rfl
 show inS ni _ _ a rc h=_;unfold inS;rw[hn];show zW no _ _ a rc h=_;unfold zW;cases fidIn no (.fn f [] c) with
 |true=>simp only[kE hd,hk,ev];rfl
 |false=>simp only[kE hd,hk,ev];rfl
theorem Vn {l:Nat}{a a':List AV}{h h1:AH}(e0:iw a h=(a',h1))(hk:K (.yld l) a' .no h1=none):
  mJ K E N ni no dp (m+1) (.yld l) a .no h=uo (zh (mJ K E N ni no dp m) N l a' h1):=by
 refine(rC e0 rfl).trans ?_;unfold zW;show uo _=_;simp only[kE (dp:=dp) (f:=.yld l) rfl,hk];rfl
theorem Ru {v:AV}{rc:RC}{h:AH}: Hk (some (.ret v,rc,h))=some (.ret v,rc,xh v h):=rfl
end
theorem BM {h:AH}{l:Nat}{pend:Option AEx}{tm:Tm}{ps:List Nat}{as b:aF}{f:FuncId}(hl:h.get l=some (.loop .ready pend tm ps as b f)):
  oE h l=some (h.set l (.loop .busy pend tm ps as b f)):=by
 unfold oE;rw[hl,aI];rfl
theorem xY {h:AH}{l:Nat}{st st':LoopState}{pend pend':Option AEx}{tm:Tm}{ps:List Nat}{as b:aF}{f:FuncId}(hl:h.get l=some (.loop st pend tm ps as b f)):
  mO h l st' pend'=some (h.set l (.loop st' pend' tm ps as b f)):=by
 unfold mO;rw[hl,aI];rfl
theorem adr {call:aQ}{n:Nat}{k:List It}{Q:AEx->AF->AH->Prop}{f:AX}{ps:List Nat}{as b:aF}{tm:Tm}{ds:List DF}{rc:RC}{fid:FuncId}{h h2:AH}{v:AV}{rc':RC}{st:LoopState}{tm':Tm}{ps':List Nat}{as' b':aF}{fid':FuncId}
  (hc:call (ev f tm) [.yld (h.z+1)] .no ((h.new (.dfd false)).new (.loop .ready none tm ps as b fid))=some (.ret v,rc',h2)) (hl:h2.get (h.z+1)=some (.loop st none tm' ps' as' b' fid')) (hb:rB st=false)
  (hR:R call n k Q .normal ⟨tm,⟨.mark h.z::ds,rc,none,fid⟩⟩ (h2.set (h.z+1) (.loop .exhausted none tm' ps' as' b' fid'))) :
  R call n (.code (.rangeFunc f ps as b)::k) Q .normal ⟨tm,⟨ds,rc,none,fid⟩⟩ h:=by
 show WP (aD (rE ⟨tm,⟨ds,rc,none,fid⟩⟩ ps as b h) fun p=>aD (call (ev f tm) [.yld p.1] .no p.2.2) fun q=>wA q.1 (xV p.2.1 ⟨tm,⟨ds,rc,none,fid⟩⟩) p.1 q.2.2) (R call n k Q);have e1:rE ⟨tm,⟨ds,rc,none,fid⟩⟩ ps as b h=some (h.z+1,[.mark h.z],(h.new (.dfd false)).new (.loop .ready none tm ps as b fid)):=rfl;rw[e1,aI];simp only[hc,aI];show WP (pO ⟨tm,⟨.mark h.z::ds,rc,none,fid⟩⟩ (h.z+1) h2) _;unfold pO;rw[hl,aI];show WP (cond (rB st) none (some (.normal,⟨tm,⟨.mark h.z::ds,rc,none,fid⟩⟩,h2.set (h.z+1) (.loop .exhausted none tm' ps' as' b' fid')))) _;rw[hb];exact eH.2 hR
theorem GP {call:aQ}{n:Nat}{k:List It}{Q:AEx->AF->AH->Prop}{f:AX}{ps:List Nat}{as b:aF}{tm:Tm}{ds:List DF}{rc:RC}{fid:FuncId}{h h2:AH}{v:AV}{rc':RC}{st:LoopState}{tm':Tm}{ps':List Nat}{as' b':aF}{fid':FuncId}(p q:Nat)(hp:h.z=p)(hq:p+1=q)
  (hc:call (ev f tm) [.yld q] .no ((h.new (.dfd false)).new (.loop .ready none tm ps as b fid))=some (.ret v,rc',h2)) (hl:h2.get q=some (.loop st none tm' ps' as' b' fid')) (hb:rB st=false)
  (hR:R call n k Q .normal ⟨tm,⟨.mark p::ds,rc,none,fid⟩⟩ (h2.set q (.loop .exhausted none tm' ps' as' b' fid'))) :
  R call n (.code (.rangeFunc f ps as b)::k) Q .normal ⟨tm,⟨ds,rc,none,fid⟩⟩ h:=by
 subst hp hq;exact adr hc hl hb hR
