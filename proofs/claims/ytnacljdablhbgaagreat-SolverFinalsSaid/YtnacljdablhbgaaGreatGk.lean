/- SolverFinals: calls that may end with a panic; the building of a term, for any visit (no condition). -/
import Derived.Test.YtnacljdablhbgaaGreatGh
namespace Go.Proofs.YtnacljdablhbgaaGreat
open Go.AG
def acw (e:AEx):Md:=match e with
 |.panic v=>.panicking v
 |_=>.returning
def XQm (rs:List bF)(P:bI->RC->AH->Prop)(tm:Tm)(rc:RC)(h2:AH)(m:Md):Prop:=match m with
 |.returning=>∃vs,fF rs tm h2=some vs/\P (.ret (one vs)) rc h2
 |.panicking v=>P (.pan v) rc h2
def XQ (call:aG)(rs:List bF)(P:bI->RC->AH->Prop)(e:AEx)(fr:AF)(h1:AH):Prop:=
 (∀id,e≠.exit id)/\∃m h2,jK fr.cx.dfs call (acw e) h1=some (m,h2)/\XQm rs P fr.tm fr.cx.rc h2 m
theorem adQ {E:Env}{call:aG}{n:Nat}{f:FuncId}{az:List AV}{rc:RC}{h0:AH}{P:bI->RC->AH->Prop}{nt:Nat}{rs:List bF}{body:aw}(hcf:E.cf f=some ⟨nt,rs,body⟩)(hp:E.pure f=false)
  (hR:R call n [.code body] (XQ call rs P) .normal ⟨bn az,⟨[],rc,none,f⟩⟩ h0):∃o rc' h',dZ E call n f az rc h0=some (o,rc',h')/\P o rc' h':=by
 obtain⟨e,⟨tm,⟨dfs,rc1,rnd,fid⟩⟩,h,q,hne,m,h2,q4,hm⟩:=hR;replace q4:jK dfs call (acw e) h=some (m,h2):=q4;replace hm:XQm rs P tm rc1 h2 m:=hm;have q':evCode body call n ⟨bn az,⟨[],rc,none,f⟩⟩ (lowered (E.pure f) h0)=some (e,⟨tm,⟨dfs,rc1,rnd,fid⟩⟩,h):=by rw[hp];exact q
 have key:∃o h',tz call (E.pure f) h0 ⟨nt,rs,body⟩ ⟨tm,⟨dfs,rc1,rnd,fid⟩⟩ (acw e) h=some (o,rc1,h')/\P o rc1 h':=by
  show ∃o h',aq (jK dfs call (acw e) h) (fun p=>VP p.1 (E.pure f) h0 ⟨nt,rs,body⟩ ⟨tm,⟨dfs,rc1,rnd,fid⟩⟩ p.2)=some (o,rc1,h')/\P o rc1 h'
  rw[q4,aF,hp];cases m with
  |returning=>
   obtain⟨vs,r1,r2⟩:=hm;refine⟨_,_,?_,r2⟩;show aq (fF rs tm h2) (fun vs=>qM false h0 h2 rc1 vs)=_;rw[r1,aF];rfl
  |panicking v=>exact⟨_,_,rfl,hm⟩
 obtain⟨o,h',k1,k2⟩:=key;refine⟨o,rc1,h',?_,k2⟩;unfold dZ;rw[hcf,aF];simp only[q',aF];cases e with
 |normal=>exact k1
 |ret=>exact k1
 |panic v=>exact k1
 |exit id=>exact absurd rfl (hne id)
def FA (P:bI->RC->AH->Prop)(o:bI)(rc:RC)(h:AH):Prop:=match o with
 |.ret v=>∃v' h',gT v h=(v',h')/\P (.ret v') rc h'
 |.pan v=>P (.pan v) rc h
def Rn (cl:Nat->aG)(f:Nat):Prop:=∀(m:Nat) (c a a':List AV) (rc:RC) (h h1:AH) (nt:Nat) (rs:List bF) (body:aw) (P:bI->RC->AH->Prop),
 EF.cf f=some ⟨nt,rs,body⟩->iP a h=(a',h1)->R (cl m) 60000 [.code body] (XQ (cl m) rs (FA P)) .normal ⟨bn (a'++c),⟨[],rc,none,f⟩⟩ h1->∃o rc' h',cl (m+1) (.fn f [] c) a rc h=some (o,rc',h')/\P o rc' h'
theorem zu {K:aG}{ni no:List Nat}{f:Nat}(hk:∀c a rc h,K (.fn f [] c) a rc h=none)(hn:ni.contains f=false)(ho:no.contains f=false):Rn (nN K EG 60000 ni no) f:=by
 intro m c a a' rc h h1 nt rs body P hcf e0 hR;obtain⟨o,rc',h',e,hP⟩:=adQ (cfG hcf) (tw f) hR;have st:nN K EG 60000 ni no (m+1) (.fn f [] c) a rc h=cond (no.contains f) (dZ EG (nN K EG 60000 ni no m) 60000 f (a'++c) rc h1) (tX (dZ EG (nN K EG 60000 ni no m) 60000 f (a'++c) rc h1)):=
  qS e0 (show fidIn ni (.fn f [] c)=false from hn) (hk c a' rc h1)
 rw[st,ho,cond_false,e];cases o with
 |ret v=>
  obtain⟨v',h2,e2,hP⟩:=hP;exact⟨_,_,_,nW e2,hP⟩
 |pan v=>exact⟨_,_,_,NA,hP⟩
theorem lW {K:aG}(hK:bW K){f:Nat}(hf:f∈Dm:=by decide)(hn:niL.contains f=false:=by decide)(ho:noL.contains f=false:=by decide):Rn (cS K) f:=
 zu (hK.fn f hf) hn ho
theorem iv {call:aG}{rs:List bF}{P:bI->RC->AH->Prop}{tm:Tm}{rc:RC}{rnd:Option Nat}{f:FuncId}{h1:AH}{vs:List AV}{e:AEx}(he:e=.normal∨e=.ret)(hv:fF rs tm h1=some vs)(hP:P (.ret (one vs)) rc h1):XQ call rs P e ⟨tm,⟨[],rc,rnd,f⟩⟩ h1:=by
 refine⟨?_,.returning,h1,?_,vs,hv,hP⟩
 ·rcases he with rfl|rfl<;>intro id e<;>cases e
 ·rcases he with rfl|rfl<;>rfl
theorem jm {call:aG}{rs:List bF}{P:bI->RC->AH->Prop}{tm:Tm}{rc:RC}{rnd:Option Nat}{f:FuncId}{h1:AH}{v:AV}(hP:P (.pan v) rc h1):XQ call rs P (.panic v) ⟨tm,⟨[],rc,rnd,f⟩⟩ h1:=
 ⟨fun id e=>(by cases e),.panicking v,h1,rfl,hP⟩
theorem Un {call:aG}{rs:List bF}{P:bI->RC->AH->Prop}{tm:Tm}{rc:RC}{rnd:Option Nat}{f:FuncId}{h1 h2:AH}{v fv u:AV}{vs:List AV}(hd:call fv [] (.pend v) h1=some (.ret u,.done,h2))(hv:fF rs tm h2=some vs)(hP:P (.ret (one vs)) rc h2):XQ call rs P (.panic v) ⟨tm,⟨[.call fv []],rc,rnd,f⟩⟩ h1:=by
 refine⟨fun id e=>(by cases e),.returning,h2,?_,vs,hv,hP⟩;show aq (aq (call fv [] (.pend v) h1) fun q=>GY q.1 q.2.1 (.panicking v) q.2.2) (fun p=>some (p.1,p.2))=_;rw[hd];rfl
theorem Hr {call:aG}{rs:List bF}{P:bI->RC->AH->Prop}{tm:Tm}{rc:RC}{rnd:Option Nat}{f:FuncId}{h1 h2:AH}{fv u:AV}{vs:List AV}{e:AEx}(he:e=.normal∨e=.ret)(hd:call fv [] .ret h1=some (.ret u,.ret,h2))(hv:fF rs tm h2=some vs)(hP:P (.ret (one vs)) rc h2):XQ call rs P e ⟨tm,⟨[.call fv []],rc,rnd,f⟩⟩ h1:=by
 refine⟨?_,.returning,h2,?_,vs,hv,hP⟩
 ·rcases he with rfl|rfl<;>intro id e<;>cases e
 ·have:jK [.call fv []] call .returning h1=some (.returning,h2):=by
   show aq (aq (call fv [] .ret h1) fun q=>GY q.1 q.2.1 .returning q.2.2) (fun p=>some (p.1,p.2))=_;rw[hd];rfl
  rcases he with rfl|rfl<;>exact this
theorem dR (t:TypeId)(v:AV):jC (.ifc t v)=.pan (.ifc t v):=(rfl)
theorem eZ (d:Option Nat)(tm:Tm)(dfs:List DF)(v:AV)(fid:FuncId)(h:AH):Fk d ⟨tm,⟨dfs,.pend v,none,fid⟩⟩ h=some (.normal,⟨fC d tm v,⟨dfs,.done,none,fid⟩⟩,h):=(rfl)
theorem fW (d:Option Nat)(tm:Tm)(dfs:List DF)(fid:FuncId)(h:AH):Fk d ⟨tm,⟨dfs,.ret,none,fid⟩⟩ h=some (.normal,⟨fC d tm .nili,⟨dfs,.ret,none,fid⟩⟩,h):=(rfl)
theorem fX (t:TypeId)(v:AV):mR (.ifc t v) .neq (.iface true) .nili=some (.bool true):=(rfl)
theorem fe:mR .nili .neq (.iface true) .nili=some (.bool false):=(rfl)
theorem dU (e:Int):kX (.ifc 30 (wt e)) 30 (wt 0) true=some (.tup [wt e,.bool true]):=(rfl)
theorem dk (e:Int):kX (.ifc 198 (wt e)) 198 (wt 0) true=some (.tup [wt e,.bool true]):=(rfl)
attribute [local go_sem] dR eZ fW fX fe dU dk cI iI dT cJ di iK
theorem Er (e:Int)(h:AH):eT (.ifc 30 (wt e)) h=(.ifc 30 (wt e),h):=dG (by simp[AV.free]) h
theorem BA (e:Int)(h:AH):eT (.ifc 198 (wt e)) h=(.ifc 198 (wt e),h):=dG (by simp[AV.free]) h
section
variable {cl:Nat->aG}
theorem c88 (r:Rn cl 88)(m:Nat)(e:Int)(h:AH):cl (m+1) (.fn 88 [] []) [wt e] .no h=some (.pan (.ifc 198 (wt e)),.no,h):=by
 obtain⟨o,rc,h',e1,rfl,rfl,rfl⟩:=r m [] _ _ .no h _ _ _ _ (fun o rc h'=>o=.pan (.ifc 198 (wt e))/\rc=.no/\h'=h) cf88 (ae (ba _ _ _) (aB _)) (by
  simp only[wab];unfold b88;simp only[go_sem,simprocAttr];exact jm ⟨rfl,rfl,rfl⟩)
 exact e1
theorem c153 (r:Rn cl 153)(m:Nat)(e:Int)(h:AH):cl (m+1) (.fn 153 [] []) [wt e] .no h=some (.pan (.ifc 30 (wt e)),.no,h):=by
 obtain⟨o,rc,h',e1,rfl,rfl,rfl⟩:=r m [] _ _ .no h _ _ _ _ (fun o rc h'=>o=.pan (.ifc 30 (wt e))/\rc=.no/\h'=h) cf153 (ae (ba _ _ _) (aB _)) (by
  simp only[wab];unfold b153;simp only[go_sem,simprocAttr];exact jm ⟨rfl,rfl,rfl⟩)
 exact e1
theorem c84 (r:Rn cl 84)(m:Nat)(e:Int)(h:AH):cl (m+1) (.fn 84 [] []) [.ifc 198 (wt e)] .no h=some (.ret (wt e),.no,h):=by
 obtain⟨o,rc,h',e1,rfl,rfl,rfl⟩:=r m [] _ _ .no h _ _ _ _ (fun o rc h'=>o=.ret (wt e)/\rc=.no/\h'=h) cf84 (ae (BA _ _) (aB _)) (by
  simp only[wab];unfold b84;simp only[go_sem,simprocAttr,ZJ,ZK,ZL];exact iv (.inr rfl) (by simp only[go_sem,simprocAttr,r84];rfl) ⟨_,_,rfl,rfl,rfl,rfl⟩)
 exact e1
theorem c106 (r:Rn cl 106)(m:Nat)(e:Int)(h:AH):cl (m+1) (.fn 106 [] []) [.ifc 30 (wt e)] .no h=some (.ret (wt e),.no,h):=by
 obtain⟨o,rc,h',e1,rfl,rfl,rfl⟩:=r m [] _ _ .no h _ _ _ _ (fun o rc h'=>o=.ret (wt e)/\rc=.no/\h'=h) cf106 (ae (Er _ _) (aB _)) (by
  simp only[wab];unfold b106;simp only[go_sem,simprocAttr,SW,SX,SY];exact iv (.inr rfl) (by simp only[go_sem,simprocAttr,r106];rfl) ⟨_,_,rfl,rfl,rfl,rfl⟩)
 exact e1
theorem c161p (r:Rn cl 161)(r84:Rn cl 84)(m a b:Nat)(e x:Int)(h:AH)(ga:∃c1 c2 c3 c4 c5,h.get a=some (.box [c1,c2,c3,c4,c5]))(gb:h.get b=some (.box [wt x]))(hne:a≠b):
  cl (m+2) (.fn 161 [] [.ptr a 0 0,.ptr b 0 0]) [] (.pend (.ifc 198 (wt e))) h=some (.ret (.tup []),.done,(h.set a (.box [wt 0,wt 0,.str (bs []),.nl,.nl])).set b (.box [wt e])):=by
 obtain⟨c1,c2,c3,c4,c5,ga⟩:=ga;obtain⟨o,rc,h',e1,rfl,rfl,rfl⟩:=r (m+1) [.ptr a 0 0,.ptr b 0 0] _ _ (.pend (.ifc 198 (wt e))) h _ _ _ _ (fun o rc h'=>o=.ret (.tup [])/\rc=.done/\h'=(h.set a (.box [wt 0,wt 0,.str (bs []),.nl,.nl])).set b (.box [wt e])) abE (aB _) (by
  have e84:=fun h=>c84 r84 m e h
  have hne':¬b=a:=fun q=>hne q.symm
  unfold aeZ;simp only[go_sem,simprocAttr,Gb,e84,ga,gb,hne'];exact iv (.inl rfl) rfl ⟨.tup [],_,bG (aB _),rfl,rfl,rfl⟩)
 exact e1
theorem c105p (r:Rn cl 105)(r106:Rn cl 106)(m a b:Nat)(e x:Int)(h:AH)(ga:∃c1 c2 c3 c4 c5,h.get a=some (.box [c1,c2,c3,c4,c5]))(gb:h.get b=some (.box [wt x]))(hne:a≠b):
  cl (m+2) (.fn 105 [] [.ptr a 0 0,.ptr b 0 0]) [] (.pend (.ifc 30 (wt e))) h=some (.ret (.tup []),.done,(h.set a (.box [wt 0,wt 0,.str (bs []),.nl,.nl])).set b (.box [wt e])):=by
 obtain⟨c1,c2,c3,c4,c5,ga⟩:=ga;obtain⟨o,rc,h',e1,rfl,rfl,rfl⟩:=r (m+1) [.ptr a 0 0,.ptr b 0 0] _ _ (.pend (.ifc 30 (wt e))) h _ _ _ _ (fun o rc h'=>o=.ret (.tup [])/\rc=.done/\h'=(h.set a (.box [wt 0,wt 0,.str (bs []),.nl,.nl])).set b (.box [wt e])) abH (aB _) (by
  have e106:=fun h=>c106 r106 m e h
  have hne':¬b=a:=fun q=>hne q.symm
  unfold ae7;simp only[go_sem,simprocAttr,GI,e106,ga,gb,hne'];exact iv (.inl rfl) rfl ⟨.tup [],_,bG (aB _),rfl,rfl,rfl⟩)
 exact e1
theorem c161r (r:Rn cl 161)(m a b:Nat)(h:AH):cl (m+1) (.fn 161 [] [.ptr a 0 0,.ptr b 0 0]) [] .ret h=some (.ret (.tup []),.ret,h):=by
 obtain⟨o,rc,h',e1,rfl,rfl,rfl⟩:=r m [.ptr a 0 0,.ptr b 0 0] _ _ .ret h _ _ _ _ (fun o rc h'=>o=.ret (.tup [])/\rc=.ret/\h'=h) abE (aB _) (by
  unfold aeZ;simp only[go_sem,simprocAttr,Gb];exact iv (.inl rfl) rfl ⟨.tup [],_,bG (aB _),rfl,rfl,rfl⟩)
 exact e1
theorem c247r (r:Rn cl 247)(m a b:Nat)(h:AH):cl (m+1) (.fn 247 [] [.ptr a 0 0,.ptr b 0 0]) [] .ret h=some (.ret (.tup []),.ret,h):=by
 obtain⟨o,rc,h',e1,rfl,rfl,rfl⟩:=r m [.ptr a 0 0,.ptr b 0 0] _ _ .ret h _ _ _ _ (fun o rc h'=>o=.ret (.tup [])/\rc=.ret/\h'=h) cf247 (aB _) (by
  unfold b247;simp only[go_sem,simprocAttr,PW];exact iv (.inl rfl) rfl ⟨.tup [],_,bG (aB _),rfl,rfl,rfl⟩)
 exact e1
theorem c105r (r:Rn cl 105)(m a b:Nat)(h:AH):cl (m+1) (.fn 105 [] [.ptr a 0 0,.ptr b 0 0]) [] .ret h=some (.ret (.tup []),.ret,h):=by
 obtain⟨o,rc,h',e1,rfl,rfl,rfl⟩:=r m [.ptr a 0 0,.ptr b 0 0] _ _ .ret h _ _ _ _ (fun o rc h'=>o=.ret (.tup [])/\rc=.ret/\h'=h) abH (aB _) (by
  unfold ae7;simp only[go_sem,simprocAttr,GI];exact iv (.inl rfl) rfl ⟨.tup [],_,bG (aB _),rfl,rfl,rfl⟩)
 exact e1
end
attribute [local go_sem] dR eZ fW fX fe dU dk cI iI dT cJ di iK
section
variable (step:T->Int->Option (T×Bool×Int))
mutual
def bld:T->Int->Option (T×Int)
 |.mk k i nm ls ks,d=>match step (.mk k i nm ls ks) d with
  |none=>none
  |some (o,true,wg)=>some (o,wg)
  |some (o,false,wg)=>match blds k 0 ks d with
   |none=>none
   |some (l,wl)=>some (.mk o.kind o.i o.name o.L l,wg+wl)
def blds (k:Int):Nat->List T->Int->Option (List T×Int)
 |_,[],_=>some ([],0)
 |j,t::l,d=>match bld t (d+aV k j) with
  |none=>none
  |some (x,w1)=>match blds k (j+1) l d with
   |none=>none
   |some (l',w2)=>some (x::l',w1+w2)
end
theorem ad6 (t:T)(d:Int):bld step t d=match step t d with
  |none=>none
  |some (o,true,wg)=>some (o,wg)
  |some (o,false,wg)=>match blds step t.kind 0 t.K d with
   |none=>none
   |some (l,wl)=>some (.mk o.kind o.i o.name o.L l,wg+wl):=by
 cases t;rw[bld];rfl
def Bq (k d:Int)(ks:List T)(p:Nat)(out:List T)(ws:Int):Prop:=blds step k 0 ks d=(blds step k p (ks.drop p) d).map fun q=>(out++q.1,ws+q.2)
end
section
variable {step:T->Int->Option (T×Bool×Int)}
theorem Bq.start (k d:Int)(ks:List T):Bq step k d ks 0 [] 0:=by
 unfold Bq;rw[List.drop_zero];cases blds step k 0 ks d with
 |none=>rfl
 |some q=>simp
theorem Bq.z {k d:Int}{ks out:List T}{p:Nat}{ws w1:Int}{x r:T}(h:Bq step k d ks p out ws)(hx:ks.drop p=x::ks.drop (p+1))(e:bld step x (d+aV k p)=some (r,w1)):Bq step k d ks (p+1) (out++[r]) (ws+w1):=by
 unfold Bq at h ⊢;rw[h,hx,blds,e];cases blds step k (p+1) (ks.drop (p+1)) d with
 |none=>rfl
 |some q=>simp[Int.add_assoc]
theorem Bq.stop {k d:Int}{ks out:List T}{p:Nat}{ws:Int}{x:T}(h:Bq step k d ks p out ws)(hx:ks.drop p=x::ks.drop (p+1))(e:bld step x (d+aV k p)=none):blds step k 0 ks d=none:=by
 unfold Bq at h;rw[h,hx,blds,e];rfl
theorem Bq.done {k d:Int}{ks out:List T}{ws:Int}(h:Bq step k d ks ks.length out ws):blds step k 0 ks d=some (out,ws):=by
 unfold Bq at h;rw[h,List.drop_length,blds];simp
def UB (P:Int->AH->Prop)(Ov:Int->Prop)(pv:AV)(n:Int)(r:Option (T×Bool×Int))(o:bI)(h':AH):Prop:=match r with
 |some (r,b,wg)=>(o=.ret (.tup [enc r,.bool b])/\P (n+wg) h')∨(o=.pan pv/\Ov (n+wg))
 |none=>o=.pan pv
def acK (P:Int->AH->Prop)(Ov:Int->Prop)(pv:AV)(n:Int)(r:Option (T×Int))(o:bI)(h':AH):Prop:=match r with
 |some (r,wg)=>(o=.ret (enc r)/\P (n+wg) h')∨(o=.pan pv/\Ov (n+wg))
 |none=>o=.pan pv
def W0 (step:T->Int->Option (T×Bool×Int)):Prop:=∀t d o b wg,step t d=some (o,b,wg)->0<=wg
mutual
theorem bld_w {step:T->Int->Option (T×Bool×Int)}(h:W0 step):∀(t:T) (d:Int) r w,bld step t d=some (r,w)->0<=w
 |.mk k i nm ls ks,d,r,w,e=>by
  rw[bld]at e;cases hs:step (.mk k i nm ls ks) d with
  |none=>rw[hs]at e;cases e
  |some q=>
   obtain⟨o,b,wg⟩:=q;have h1:=h _ _ _ _ _ hs;rw[hs]at e;cases b with
   |true=>cases e;exact h1
   |false=>
    simp only at e;cases hb:blds step k 0 ks d with
    |none=>rw[hb]at e;cases e
    |some q=>
     obtain⟨l,wl⟩:=q;have h2:=AB h k 0 ks d l wl hb;rw[hb]at e;cases e;omega
theorem AB {step:T->Int->Option (T×Bool×Int)}(h:W0 step)(k:Int):∀(j:Nat) (ks:List T) (d:Int) l w,blds step k j ks d=some (l,w)->0<=w
 |_,[],_,_,_,e=>by rw[blds]at e;cases e;omega
 |j,t::ks,d,l,w,e=>by
  rw[blds]at e;cases h1:bld step t (d+aV k j) with
  |none=>rw[h1]at e;cases e
  |some q=>
   obtain⟨x,w1⟩:=q;have hx:=bld_w h t _ x w1 h1;rw[h1]at e;simp only at e;cases h2:blds step k (j+1) ks d with
   |none=>rw[h2]at e;cases e
   |some q=>
    obtain⟨l',w2⟩:=q;have hl:=AB h k (j+1) ks d l' w2 h2;rw[h2]at e;cases e;omega
end
structure J90 (fv:AV)(t o:T)(w b7:Nat)(V:AV)(h0 h:AH)(cur:List AV):Prop where
 g3:h.get h0.z=some (.box [fv])
 g4:h.get (h0.z+1)=some (.box (au t))
 g6:h.get (h0.z+1+1)=some (.box [wt 0,wt 0,.str (bs []),.nl,.nl])
 g7:h.get b7=some (.box [wt o.kind,wt o.i,.str o.name,.ls (o.L.map aK),V])
 own:Own (b7+1) 5 true h V cur
 kw:HKx w h0 h
 nx:b7+1<=h.z
 lo:h0.z+3<=b7
 wl:w<h0.z
theorem J90.up {fv:AV}{t o:T}{w b7:Nat}{V:AV}{h0 h h':AH}{cur:List AV}(J:J90 fv t o w b7 V h0 h cur)(k:HKx w h h'):J90 fv t o w b7 V h0 h' cur:=by
 have:=J.nx;have:=J.lo;have:=J.wl;exact⟨(k.kw _ (by omega) (by omega)).trans J.g3,(k.kw _ (by omega) (by omega)).trans J.g4,(k.kw _ (by omega) (by omega)).trans J.g6,(k.kw _ (by omega) (by omega)).trans J.g7,bp J.own k.z (fun a q1 q2=>k.kw a q2 (by omega)),J.kw.trans k,Nat.le_trans J.nx k.z,J.lo,J.wl⟩
theorem J90.put {fv:AV}{t o:T}{w b7:Nat}{V:AV}{h0 h h':AH}{cur cur':List AV}(J:J90 fv t o w b7 V h0 h cur)(hn:h'.z=h.z)(hk:∀k,k<b7+1->h'.get k=h.get k)(ho:Own (b7+1) 5 true h' V cur'):J90 fv t o w b7 V h0 h' cur':=by
 have:=J.nx;have:=J.lo;have:=J.wl;exact⟨(hk _ (by omega)).trans J.g3,(hk _ (by omega)).trans J.g4,(hk _ (by omega)).trans J.g6,(hk _ (by omega)).trans J.g7,ho,⟨by rw[hn];exact J.kw.z,fun k q1 q2=>(hk k (by omega)).trans (J.kw.kw k q1 q2)⟩,by rw[hn];exact J.nx,J.lo,J.wl⟩
theorem IS (F:Nat)(cap:List AV)(hc:AV.ip cap=cap)(h:AH):eT (.agg [.fn F [] cap]) h=(.agg [.fn F [] cap],h):=by
 simp[eT,nD,gH,fS,AV.norm,AV.ip,hc]
def I90g (P:Int->AH->Prop)(n:Int)(step:T->Int->Option (T×Bool×Int))(fv:AV)(t o:T)(d:Int)(w b7:Nat)(V:AV)(h0:AH)(j:Nat)(fr:AF)(h:AH):Prop:=∃tm p cur out ws,p+j=t.K.length/\fr=⟨tm,⟨[],.no,none,90⟩⟩/\
 nth tm 2=wt d/\nth tm 3=.ptr h0.z 0 0/\nth tm 4=.ptr (h0.z+1) 0 0/\nth tm 6=.ptr (h0.z+1+1) 0 0/\nth tm 7=.ptr b7 0 0/\nth tm 32=.ls (t.K.map enc)/\nth tm 33=wt (t.K.length:Int)/\nth tm 34=wt (p:Int)/\
 J90 fv t o w b7 V h0 h cur/\cur.length=t.K.length/\cur.take p=out.map enc/\Bq step t.kind d t.K p out ws/\P (n+ws) h
theorem nR {α:Type}(l:List α)(p:Nat)(x:α)(h:p<l.length):(l.set p x).take (p+1)=l.take p++[x]:=by
 rw[List.take_add_one,List.take_set_of_le (Fv p),List.getElem?_set_self h];rfl
variable {cl:Nat->aG}{F:Nat}{cap:List AV}{P:Int->AH->Prop}{Ov:Int->Prop}{Good:T->Int->Prop}{pv:AV}{w mv Bp:Nat}
theorem acC (hr90:Rn cl 90)(c128:∀m (k j:Int) h,cl m (.fn 128 [] []) [wt k,wt j] .no h=some (.ret (wt (aV k j)),.no,h))(hcap:AV.ip cap=cap)(hcb:AV.beqs cap cap=true)
  (hW:W0 step) (hOv:∀a b,Ov a->0<=b->Ov (a+b)) (hwB:w<Bp) (hPs:∀n h h',P n h->(∀k,k<Bp->h'.get k=h.get k)->P n h') (hG:∀t d (a:Nat) x,Good t d->t.K[a]?=some x->Good x (d+aV t.kind a))
  (hvis:∀(m:Nat) (t:T) (d n:Int) (h:AH),mv<=m->Good t d->size t<=50000->0<=d->d<=1000000->P n h->Bp<=h.z->∃o h',cl m (.fn F [] cap) [enc t,wt d] .no h=some (o,.no,h')/\HKx w h h'/\UB P Ov pv n (step t d) o h') :
  ∀(m:Nat) (t:T) (d n:Int) (h:AH),size t+mv<=m->size t<=50000->0<=d->d+size t<=1000000->Good t d->P n h->Bp<=h.z->
   ∃o h',cl m (.fn 90 [] []) [.agg [.fn F [] cap],enc t,wt d] .no h=some (o,.no,h')/\HKx w h h'/\acK P Ov pv n (bld step t d) o h':=by
 intro m;induction m with
 |zero=>intro t d n h hm;have:=cG t;omega
 |succ m ih=>
  intro t d n h hm h50 hd0 hd1 hg hp hB;have hw:w<h.z:=by omega
  have hP:∀n H H',Bp<=H.z->P n H->HK H H'->P n H':=fun n H H' q p k=>hPs n H H' p (fun a ha=>k.kw a (by omega))
  have hkl:aW t.K+1=size t/\t.K.length<=aW t.K:=by
   have:=bE t.K;cases t;simp only[T.K,size]at *;omega
  have key:=hr90 m [] _ _ .no h _ _ _ _ (fun o rc h'=>rc=.no/\HKx w h h'/\acK P Ov pv n (bld step t d) o h') cf90 (ae (IS F cap hcap _) (ae (aP t _) (ae (ba .i64 d _) (aB _)))) (by
   simp only[wab];obtain⟨H,hH⟩:∃H:AH,H=((h.new (.box [.fn F [] cap])).new (.box (au t))).new (.box [wt 0,wt 0,.str (bs []),.nl,.nl]):=⟨_,rfl⟩
   have k0:HK h H:=by subst hH;exact((HK.new _ _).add _).add _
   have n0:H.z=h.z+3:=by subst hH;simp only[ci]
   have g3:H.get h.z=some (.box [.fn F [] cap]):=by subst hH;rw[aJ (by simp only[ci];omega),aJ (by simp only[ci];omega),aE]
   have g4:H.get (h.z+1)=some (.box (au t)):=by
    subst hH;rw[aJ (by simp only[ci];omega),<-ci h (.box [.fn F [] cap]),aE]
   have g6:H.get (h.z+1+1)=some (.box [wt 0,wt 0,.str (bs []),.nl,.nl]):=by
    subst hH;have:h.z+1+1=((h.new (.box [.fn F [] cap])).new (.box (au t))).z:=by simp only[ci]
    rw[this,aE]
   obtain⟨ov,h2,e2,k2,hv⟩:=hvis m t d n H (by have:=cG t;omega) hg h50 hd0 (by omega) (hP _ _ _ hB hp k0) (by omega);have n2:=k2.z;have ebx:∀h:AH,gU h 1 (.agg [.fn F [] cap])=.val (.ptr h.z 0 0) (h.new (.box [.fn F [] cap])):=fun h=>zP _ 1 rfl
   have kk2:=(k0.x w).trans k2;have fin:∀(tm:Tm) (H4:AH) (cells:List AV) (r:T) (H5:AH),nth tm 6=.ptr (h.z+1+1) 0 0->H4.get (h.z+1+1)=some (.box cells)->cells.length=5->eT (.agg cells) H4=(enc r,H5)->HKx w h H5->acK P Ov pv n (bld step t d) (.ret (enc r)) H5->
     XQ (cl m) r90 (FA fun o rc h'=>rc=.no/\HKx w h h'/\acK P Ov pv n (bld step t d) o h') .ret ⟨tm,⟨[],.no,none,90⟩⟩ H4:=by
    intro tm H4 cells r H5 t6 g hl hcan hk hb
    match cells,hl with
    |[c1,c2,c3,c4,c5],_=>
     exact iv (.inr rfl) (vs:=[.agg [c1,c2,c3,c4,c5]]) (by simp only[go_sem,simprocAttr,r90,t6,g]) ⟨_,_,cC (by intro l e;cases e) hcan,rfl,hk,hb⟩
   unfold au at hH g4;rw[aA t]at e2 ⊢;unfold b90;simp only[go_sem,simprocAttr,ebx];rw[<-hH];clear hH;rw[ad6]at fin ⊢;cases hs:step t d with
   |none=>
    rw[hs]at hv;replace hv:ov=.pan pv:=hv;subst hv;simp only[go_sem,simprocAttr,EO,ci,g3,g4,e2];exact jm ⟨rfl,kk2,rfl⟩
   |some q=>
    obtain⟨o,b,wg⟩:=q;rw[hs]at hv fin;rcases (show(ov=.ret (.tup [enc o,.bool b])/\P (n+wg) h2)∨(ov=.pan pv/\Ov (n+wg)) from hv) with⟨rfl,hp2⟩|⟨rfl,hov⟩
    case inr=>
     simp only[go_sem,simprocAttr,EO,ci,g3,g4,e2];refine jm ⟨rfl,kk2,?_⟩;cases b with
     |true=>exact .inr ⟨rfl,hov⟩
     |false=>
      simp only;cases hbs:blds step t.kind 0 t.K d with
      |none=>rfl
      |some q=>
       obtain⟨l,wl⟩:=q;refine .inr ⟨rfl,?_⟩;rw[<-Int.add_assoc];exact hOv _ _ hov (AB hW _ _ _ _ _ _ hbs)
    have hst:=aQ (h:=h2.new (.box [wt 0,wt 0,.str (bs []),.nl,.nl])) (k:=h2.z) (aE _ _) o;obtain⟨H3,hH3⟩:∃H3:AH,H3=(h2.new (.box [wt 0,wt 0,.str (bs []),.nl,.nl])).set h2.z (.box (au o)):=⟨_,rfl⟩
    have k3:HK h2 H3:=by subst hH3;exact HK.new_set _ _ _
    have x3:H3.get h2.z=some (.box (au o)):=by subst hH3;exact aC _ _ _
    have n3:H3.z=h2.z+1:=by subst hH3;simp only[co,ci]
    rw[<-hH3]at hst;clear hH3;have kk3:=kk2.trans (k3.x w);have g33:=(k3.kw h.z (by omega)).trans ((k2.kw _ (by omega) (by omega)).trans g3);have g43:=(k3.kw (h.z+1) (by omega)).trans ((k2.kw _ (by omega) (by omega)).trans g4);have g63:=(k3.kw (h.z+1+1) (by omega)).trans ((k2.kw _ (by omega) (by omega)).trans g6);have hp3:=hP _ _ _ (by omega) hp2 k3;cases b with
    |true=>
     have x3':=x3;unfold au at x3';simp only[go_sem,simprocAttr,EO,ci,g3,g4,e2,hst,UF,x3',g63];refine fin _ _ _ o _ (by simp only[go_sem,simprocAttr]) (aC _ _ _) rfl (by rw[<-aA];exact aP _ _) (kk3.set _ (.inl (by omega))) (.inl ⟨rfl,hPs _ _ _ hp3 (fun a _=>an (by omega))⟩)
    |false=>
     have x3':=x3;unfold au at x3';obtain⟨H4,hH4⟩:∃H4:AH,H4=H3.set h2.z (.box [wt o.kind,wt o.i,.str o.name,.ls (o.L.map aK),.nl]):=⟨_,rfl⟩
     have n4:H4.z=H3.z:=by subst hH4;exact co _ _ _
     have o4:∀a,a≠h2.z->H4.get a=H3.get a:=fun a q=>by subst hH4;exact an q
     have x4:H4.get h2.z=some (.box [wt o.kind,wt o.i,.str o.name,.ls (o.L.map aK),.nl]):=by subst hH4;exact aC _ _ _
     have g34:=(o4 h.z (by omega)).trans g33;have g44:=(o4 (h.z+1) (by omega)).trans g43;have g64:=(o4 (h.z+1+1) (by omega)).trans g63;have kk4:HKx w h H4:=by subst hH4;exact kk3.set _ (.inl (by omega))
     have hp4:=hPs _ _ _ hp3 (fun a _=>o4 a (by omega));simp only at fin;simp only[go_sem,simprocAttr,EO,ci,g3,g4,e2,hst,UF,ZD,x3'];rw[<-hH4];clear hH4;simp only[go_sem,simprocAttr,ZE,g44];refine bj (fun hpos=>?_) (fun hz=>?_)
     ·obtain⟨V,H5,e5,o5,n5,k5,_,v51,v52⟩:=vn (base:=h2.z+1) (h:=H4) (z:=.agg [wt 0,wt 0,.str (bs []),.nl,.nl]) (sz:=5) (bytes:=80) t.K.length .i64 (by omega) rfl rfl (by omega) (by decide);have e5:fq H4 true 5 80 [wt 0,wt 0,.str (bs []),.nl,.nl] (wt (t.K.length:Int)) (wt (t.K.length:Int))=some (V,H5):=e5;have m7:=(k5 h2.z (by omega)).trans x4;have m4:=(k5 (h.z+1) (by omega)).trans g44;have nne:¬h.z+1=h2.z:=by omega
      simp only[go_sem,simprocAttr,g44,e5,m7,v51,v52,nne,m4];have J0:J90 (.fn F [] cap) t o w h2.z V h (H5.set h2.z (.box [wt o.kind,wt o.i,.str o.name,.ls (o.L.map aK),V])) (List.replicate t.K.length (.agg [wt 0,wt 0,.str (bs []),.nl,.nl])):=
       ⟨by rw[an (by omega),k5 _ (by omega)];exact g34,by rw[an (by omega),k5 _ (by omega)];exact g44,by rw[an (by omega),k5 _ (by omega)];exact g64,aC _ _ _,bp o5 (by rw[co];exact Fv _) (fun a q _=>an (by omega)),⟨by rw[co,n5];have:=kk4.z;omega,fun a q1 q2=>by rw[an (by omega),k5 a (by omega)];exact kk4.kw a q1 q2⟩,by rw[co];omega,by omega,hw⟩
      refine bD (I90g P (n+wg) step (.fn F [] cap) t o d w h2.z V h) t.K.length (by omega) ⟨_,0,_,[],0,wac _,rfl,by simp only[go_sem,simprocAttr],by simp only[go_sem,simprocAttr],by simp only[go_sem,simprocAttr],by simp only[go_sem,simprocAttr],by simp only[go_sem,simprocAttr],by simp only[go_sem,simprocAttr],by simp only[go_sem,simprocAttr],by simp only[go_sem,simprocAttr],J0,by simp,by simp,Bq.start _ _ _,by rw[Int.add_zero];exact hPs _ _ _ hp4 (fun a _=>by rw[an (by omega),k5 a (by omega)])⟩ ?_;clear J0;rintro j fr H6 ⟨tm,p,cur,out,ws,hpj,rfl,t2,t3,t4,t6,t7,t32,t33,t34,J,hcl,hct,hbq,hp6⟩;have wl:=J.wl;have lo:=J.lo;have nx:=J.nx;unfold abL;simp only[go_sem,simprocAttr,ZF,t33,t34];refine bj (fun hlt=>?_) (fun hge=>?_)
      ·have hlt:p<t.K.length:=by omega
       have hget:t.K[p]?=some t.K[p]:=wO hlt;have hdr:t.K.drop p=t.K[p]::t.K.drop (p+1):=List.drop_eq_getElem_cons hlt;have ha:=fun h=>aN aZ hget .i64 h
       have hss:=ck hget;have hgx:=hG t d p _ hg hget;have hbb:=fO t.kind p;revert hdr ha hss hgx;generalize t.K[p]=x;intro hdr ha hss hgx;have hw1:IntKind.wrap .i64 (d+aV t.kind p)=d+aV t.kind p:=br _ (by omega) (by omega);have hw2:=aM p (by omega);have c128':=c128 m t.kind p;have hst6:=aQ (h:=H6.new (.box [wt 0,wt 0,.str (bs []),.nl,.nl])) (k:=H6.z) (aE _ _) x;obtain⟨H7,hH7⟩:∃H7:AH,H7=(H6.new (.box [wt 0,wt 0,.str (bs []),.nl,.nl])).set H6.z (.box (au x)):=⟨_,rfl⟩
       have k7:HK H6 H7:=by subst hH7;exact HK.new_set _ _ _
       have x7:H7.get H6.z=some (.box (au x)):=by subst hH7;exact aC _ _ _
       have n7:H7.z=H6.z+1:=by subst hH7;simp only[co,ci]
       rw[<-hH7]at hst6;clear hH7;have J7:=J.up (k7.x w);obtain⟨o8,h8,e8,k8,hb8⟩:=ih x (d+aV t.kind p) (n+wg+ws) H7 (by omega) (by omega) (by omega) (by omega) hgx (hP _ _ _ (by omega) hp6 k7) (by omega);have n8:=k8.z;have J8:=J7.up k8;have q3:=J7.g3;have q4:=J7.g4;have q7:=J7.g7;have q78:=J8.g7;unfold au at q4 x7;have bqV:AV.beq V V=true:=(wH J.own).1;have bqf:AV.beq (.agg [.fn F [] cap]) (.agg [.fn F [] cap])=true:=by simp[AV.beq,AV.beqs,hcb]
       have bqx:AV.beq (.agg [wt x.kind,wt x.i,.str x.name,.ls (x.L.map aK),.ls (x.K.map enc)]) (.agg [wt x.kind,wt x.i,.str x.name,.ls (x.L.map aK),.ls (x.K.map enc)])=true:=by rw[<-aA];exact mW _
       rw[aA x]at e8;cases hbx:bld step x (d+aV t.kind p) with
       |none=>
        rw[hbx]at hb8;replace hb8:o8=.pan pv:=hb8;subst hb8;simp only[go_sem,simprocAttr,t32,t34,ha,hst6,Mf,t2,t3,t4,t7,q3,q4,q7,x7,c128',hw1,e8,bqV,bqf,bqx];refine jm ⟨rfl,J8.kw,?_⟩;rw[hbq.stop hdr hbx];rfl
       |some q=>
        obtain⟨r,w1⟩:=q;rw[hbx]at hb8;rcases (show(o8=.ret (enc r)/\P (n+wg+ws+w1) h8)∨(o8=.pan pv/\Ov (n+wg+ws+w1)) from hb8) with⟨rfl,hp8⟩|⟨rfl,hov⟩
        case inr=>
         simp only[go_sem,simprocAttr,t32,t34,ha,hst6,Mf,t2,t3,t4,t7,q3,q4,q7,x7,c128',hw1,e8,bqV,bqf,bqx];refine jm ⟨rfl,J8.kw,?_⟩;have hn:=hbq.z hdr hbx;unfold Bq at hn;rw[hn];cases hbs:blds step t.kind (p+1) (t.K.drop (p+1)) d with
         |none=>rfl
         |some q=>
          obtain⟨l,wl⟩:=q;refine .inr ⟨rfl,?_⟩;have:=hOv _ _ hov (AB hW _ _ _ _ _ _ hbs);simp only[<-Int.add_assoc]at this ⊢;exact this
        obtain⟨pp,h9,i9,st9,o9,n9,k9,_,_⟩:=pc (x:=enc r) (a:=p) J8.own (by omega) (aZ r) (fu r) (gh r) .i64;simp only[go_sem,simprocAttr,t32,t34,ha,hst6,Mf,t2,t3,t4,t7,q3,q4,q7,q78,x7,c128',hw1,e8,bqV,bqf,bqx,i9,st9,hw2];refine⟨j-1,by omega,_,p+1,cur.set p (enc r),out++[r],ws+w1,by omega,rfl,by simp only[go_sem,simprocAttr,t2],by simp only[go_sem,simprocAttr,t3],by simp only[go_sem,simprocAttr,t4],by simp only[go_sem,simprocAttr,t6],by simp only[go_sem,simprocAttr,t7],by simp only[go_sem,simprocAttr,t32],by simp only[go_sem,simprocAttr,t33],by simp only[go_sem,simprocAttr],J8.put n9 k9 o9,by rw[List.length_set];exact hcl,?_,hbq.z hdr hbx,?_⟩
        ·rw[nR _ _ _ (by omega),hct,List.map_append];rfl
        ·rw[<-Int.add_assoc];exact hPs _ _ _ hp8 (fun a _=>k9 a (by omega))
      ·have:p=t.K.length:=by omega
       subst this;rw[List.take_of_length_le (by omega)]at hct;subst hct;have q7:=J.g7;have q6:=J.g6;have hVb:=wH J.own;simp only[go_sem,simprocAttr,UG,t6,t7,q7,q6];obtain⟨H9,e9,n9,k9⟩:=Az o.kind o.i o.name o.L (bp (h':=H6.set (h.z+1+1) (.box [wt o.kind,wt o.i,.str o.name,.ls (o.L.map aK),V])) J.own (by rw[co];exact Fv _) (fun a q _=>an (by omega)));refine fin _ _ _ (.mk o.kind o.i o.name o.L out) H9 (by simp only[go_sem,simprocAttr,t6]) (aC _ _ _) rfl e9 ⟨by rw[n9,co];exact J.kw.z,fun a q1 q2=>by rw[k9 a (by omega),an (by omega)];exact J.kw.kw a q1 q2⟩ ?_;rw[hbq.done];exact .inl ⟨rfl,by rw[<-Int.add_assoc];exact hPs _ _ _ hp6 (fun a _=>by rw[k9 a (by omega),an (by omega)])⟩
     ·have hk0:t.K=[]:=by
       cases hkk:t.K with
       |nil=>rfl
       |cons a l=>rw[hkk]at hz;exact absurd (show(0:Int)<(((a::l).length:Nat):Int) by simp only[List.length_cons];omega) hz
      simp only[go_sem,simprocAttr,UG,x4,g64];refine fin _ _ _ (.mk o.kind o.i o.name o.L []) _ (by simp only[go_sem,simprocAttr]) (aC _ _ _) rfl (iG (lB (eC _) rfl) _) (kk4.set _ (.inl (by omega))) ?_;rw[hk0,blds];exact .inl ⟨rfl,by rw[Int.add_zero];exact hPs _ _ _ hp4 (fun a _=>an (by omega))⟩)
  obtain⟨o,rc,h',e,rfl,k,hb⟩:=key;exact⟨o,h',e,k,hb⟩
end
