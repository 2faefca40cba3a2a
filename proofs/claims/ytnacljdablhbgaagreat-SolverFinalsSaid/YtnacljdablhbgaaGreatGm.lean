/- SolverFinals: maps; the state of filling, by the program (no condition). -/
import Derived.Test.YtnacljdablhbgaaGreatGl
namespace Go.Proofs.YtnacljdablhbgaaGreat
open Go.AG
attribute [local go_sem] dR eZ fW fX fe dU dk cI iI dT cJ di iK
section
variable {α:Type}(f:α->AV)
def mpf (L:List (Int×α)):List (AV×AV):=L.map fun e=>(wt e.1,f e.2)
def lkf:List (Int×α)->Int->Option α
 |[],_=>none
 |e::L,k=>if k=e.1 then some e.2 else lkf L k
def stf:List (Int×α)->Int->α->List (Int×α)
 |[],k,v=>[(k,v)]
 |e::L,k,v=>if k=e.1 then (k,v)::L else e::stf L k v
theorem kK (L:List (Int×α))(k:Int)(v:α)(i:Int):lkf (stf L k v) i=if i=k then some v else lkf L i:=by
 induction L with
 |nil=>simp[stf,lkf]
 |cons e L ih=>
  rw[stf];by_cases h:k=e.1
  ·rw[wae h,lkf,lkf];by_cases hi:i=k
   ·simp[hi]
   ·rw[wad hi,wad hi,wad (fun q=>hi (by rw[q,h]))]
  ·rw[wad h,lkf,lkf,ih];by_cases hi:i=k
   ·rw[wae hi,wae hi,wad (fun q=>h (by rw[<-hi,q]))]
   ·rw[wad hi,wad hi]
theorem zJ (k:Int):∀L:List (Int×α),jI (mpf f L) 1 (wt k)=some ((lkf L k).map f)
 |[]=>rfl
 |e::L=>by
  show aq (cE 1 (wt k) (wt e.1)) (fun b=>cond b (some (some (f e.2))) (jI (mpf f L) 1 (wt k)))=_;rw[fG,aF,zJ k L,lkf];by_cases h:k=e.1
  ·simp[h]
  ·simp[h]
theorem PA (k:Int)(v:α):∀L:List (Int×α),pH (mpf f L) 1 (wt k) (f v)=mpf f (stf L k v)
 |[]=>rfl
 |e::L=>by
  show(Option.casesOn (cE 1 (wt k) (wt e.1)) ((AV.int .i64 e.1,f e.2)::pH (mpf f L) 1 (wt k) (f v)) fun b=>cond b ((wt k,f v)::mpf f L) ((AV.int .i64 e.1,f e.2)::pH (mpf f L) 1 (wt k) (f v)):List (AV×AV))=_;rw[fG,PA k v L,stf];by_cases h:k=e.1
  ·simp[h,mpf]
  ·simp[h,mpf]
theorem qT {h:AH}{km:Nat}{L:List (Int×α)}(hm:h.get km=some (.map (mpf f L)))(k:Int)(z:AV)(ok:Bool):
  gZ h 1 z ok (.map km) (wt k)=some (match lkf L k with|some o=>cond ok (.tup [f o,.bool true]) (f o)|none=>cond ok (.tup [z,.bool false]) z):=by
 show aq (cE 1 (wt k) (wt k)) (fun _=>aq (aq (aq (h.get km) Fg) fun es=>jI es 1 (wt k)) fun r=>some (zC r z ok))=_;rw[fG,hm];show aq (jI (mpf f L) 1 (wt k)) _=_;rw[zJ];cases lkf L k<;>rfl
theorem zA {h:AH}{km:Nat}{L:List (Int×α)}(hm:h.get km=some (.map (mpf f L)))(k:Int)(v:α):
  kN h 1 (.map km) (wt k) (f v)=some (h.set km (.map (mpf f (stf L k v)))):=by
 show aq (aq (h.get km) Fg) (fun es=>aq (cE 1 (wt k) (wt k)) fun _=>aq (jI es 1 (wt k)) fun _=>some (h.set km (.map (pH es 1 (wt k) (f v)))))=_;rw[hm];show aq (cE 1 (wt k) (wt k)) (fun _=>aq (jI (mpf f L) 1 (wt k)) fun _=>some (h.set km (.map (pH (mpf f L) 1 (wt k) (f v)))))=_;rw[fG,zJ,PA];rfl
end
theorem c157 {K:aG}(hK:bW K)(kb:KB K)(kf:KF K)(kp:KP K)(m:Nat)(t:T)(vs:List T)(hvs:∀x∈vs,size x<=2000/\Vb 30000 x/\Lq x)(hvl:vs.length<=1000)(hs:size t<=2000)(hv:Vb 30000 t)(hq:Lq t)(hm:4100<=m)
  (hg1:size (gA vs t 0)<=4096) (hg2:io (gA vs t 0)<=200) (h:AH) :
  ∃v h',cS K (m+2) (.fn 157 [] []) [enc t,.ls (vs.map enc)] .no h=some (.ret v,.no,h')/\v=.tup [enc (gA vs t 0),wt 0]/\HK h h':=by
 refine cm hK cf157 (ae (aP _ _) (ae (iL _ _) (aB _))) ?_;simp only[wab];have J0:=kS.init t h;obtain⟨H,hH⟩:∃H:AH,H=((h.new (.box (au t))).new (.box [wt 0,wt 0,.str (bs []),.nl,.nl])):=⟨_,rfl⟩
 rw[<-hH]at J0;have b6:=J0.b6;have b10:=J0.b10;have nx:=J0.nx;obtain⟨H2,e2,k2⟩:=c207 hK kb kf kp m t vs hvs hvl hs hv hq hm hg1 hg2 H;have hst:=aQ ((k2.kw (h.z+1) (by omega)).trans b10) (gA vs t 0);unfold au at hH b6;rw[aA t]at e2 ⊢;unfold b157;simp only[go_sem,simprocAttr];rw[<-hH];clear hH;simp only[go_sem,simprocAttr,ci,Ru,b6,e2,hst];exact⟨rfl,rfl,.inr rfl,[.agg (au (gA vs t 0)),wt 0],by simp only[go_sem,simprocAttr,r157,au],_,_,bG (ae (by rw[<-cN];exact aP _ _) (ae (ba _ _ _) (aB _))),rfl,(J0.kw.trans k2).set _ (by omega)⟩
structure HF (a b c:Nat)(h h':AH):Prop where
 z:h.z<=h'.z
 kw:∀k,k<h.z->k≠a->k≠b->k≠c->h'.get k=h.get k
section
variable {a b c:Nat}{h0 h h' h'':AH}
theorem HF.refl (h:AH):HF a b c h h:=⟨Fv _,fun _ _ _ _ _=>rfl⟩
theorem HF.trans (x:HF a b c h h')(y:HF a b c h' h''):HF a b c h h'':=⟨Nat.le_trans x.z y.z,fun k q1 q2 q3 q4=>(y.kw k (Nat.lt_of_lt_of_le q1 x.z) q2 q3 q4).trans (x.kw k q1 q2 q3 q4)⟩
theorem HK.f (x:HK h h'):HF a b c h h':=⟨x.z,fun k q _ _ _=>x.kw k q⟩
theorem HF.set (x:HF a b c h0 h){j:Nat}(o:eI)(hj:h0.z<=j∨j=a∨j=b∨j=c):HF a b c h0 (h.set j o):=⟨by rw[co];exact x.z,fun k q1 q2 q3 q4=>by rw[an (by omega)];exact x.kw k q1 q2 q3 q4⟩
end
def zd (b:Bool):AV:=.bool b
structure Fs (ms:List MV)(pW pM pV pF pD pO kD kO:Nat)(D:List (Int×T))(O:List (Int×Bool))(work:Nat)(h:AH):Prop where
 gW:h.get pW=some (.box [wt (work:Int)])
 gM:h.get pM=some (.box [.ls (ms.map cD)])
 gV:h.get pV=some (.box [.fn 152 [] [.ptr pD 0 0,.ptr pO 0 0,.ptr pF 0 0,.ptr pM 0 0]])
 gF:h.get pF=some (.box [.fn 154 [] [.ptr pW 0 0,.ptr pM 0 0,.ptr pV 0 0,.ptr pF 0 0]])
 gD:h.get pD=some (.box [.map kD])
 gO:h.get pO=some (.box [.map kO])
 mD:h.get kD=some (.map (mpf enc D))
 mO:h.get kO=some (.map (mpf zd O))
theorem Fs.up {ms:List MV}{pW pM pV pF pD pO kD kO B:Nat}(hB:pW<B/\pM<B/\pV<B/\pF<B/\pD<B/\pO<B/\kD<B/\kO<B){D:List (Int×T)}{O:List (Int×Bool)}{work:Nat}{h h':AH}(s:Fs ms pW pM pV pF pD pO kD kO D O work h)(e:∀k,k<B->h'.get k=h.get k):Fs ms pW pM pV pF pD pO kD kO D O work h':=
 ⟨(e _ (by omega)).trans s.gW,(e _ (by omega)).trans s.gM,(e _ (by omega)).trans s.gV,(e _ (by omega)).trans s.gF,(e _ (by omega)).trans s.gD,(e _ (by omega)).trans s.gO,(e _ (by omega)).trans s.mD,(e _ (by omega)).trans s.mO⟩
structure Sd (ms:List MV)(D:List (Int×T))(O:List (Int×Bool))(above:List Int):Prop where
 done:∀i v,lkf D i=some v->∃w,kv ms i=some w/\∃k,Fl ms k w v
 openT:∀i b,lkf O i=some b->b=true
 opn:∀i,lkf O i≠none↔(i∈above∨lkf D i≠none)
def phi (O:List (Int×Bool)):Nat->List MV->Nat
 |_,[]=>0
 |j,m::l=>(if lkf O (j:Int)=none then size m.val else 0)+phi O (j+1) l
theorem xF {O:List (Int×Bool)}{k:Int}{b:Bool}: ∀(l:List MV) (j:Nat),k<(j:Int)->phi (stf O k b) j l=phi O j l
 |[],_,_=>rfl
 |m::l,j,h=>by
  unfold phi;have e:lkf (stf O k b) (j:Int)=lkf O j:=by rw[kK,wad (by omega)]
  rw[e,xF l (j+1) (by omega)]
theorem Ir {O:List (Int×Bool)}{b:Bool}: ∀(l:List MV) (j a:Nat) (m:MV),l[a]?=some m->lkf O ((j+a:Nat):Int)=none->phi (stf O ((j+a:Nat):Int) b) j l+size m.val=phi O j l
 |x::l,j,0,m,e,h=>by
  cases e;unfold phi;rw[Nat.add_zero]at h ⊢;have e:lkf (stf O (j:Int) b) (j:Int)=some b:=by rw[kK,wae rfl]
  rw[e,h,xF l (j+1) (by omega)];simp;omega
 |x::l,j,a+1,m,e,h=>by
  have ih:=Ir (O:=O) (b:=b) l (j+1) a m (by simpa using e) (by rw[show j+1+a=j+(a+1) by omega];exact h);rw[show j+1+a=j+(a+1) by omega]at ih;unfold phi;have e:lkf (stf O ((j+(a+1):Nat):Int) b) (j:Int)=lkf O j:=by rw[kK,wad (by omega)]
  rw[e];omega
section
variable {F:T->Option Int->T×Int×Option Int}
theorem Sq.cur (hN:∀t,(F t none).2.1≠0/\(F t none).2.2=none){l out rest:List T}{c c':Option Int}{x:T}{f:Int}(s:Sq F l c out (x::rest) c')(h:(cj F l c).2.2=some f):∃f',(F x c').2.2=some f':=by
 by_cases he:(F x c').2.1≠0
 ·rw[s.err he]at h;exact⟨f,h⟩
 ·have he:(F x c').2.1=0:=by simpa using he
  have s2:=s.step he;unfold Sq at s2;rw[s2]at h;have h2:(cj F rest (F x c').2.2).2.2=some f:=by
   split at h<;>exact h
  exact waf.1 (eS hN rest _ f h2)
end
theorem Up.val {ms:List MV}{above:List Int}{t v:T}(u:Up ms above t)(hk:cd ms (aD t).1=some v):Up ms (above++[(aD t).1.i]) v:=by
 intro j hj w hw m r hr;have hv:=pq hk;rcases List.mem_append.1 hj with hj|hj
 ·obtain⟨n1,a1,r1,b1⟩:=u j hj w hw m r hr;obtain⟨n2,a2,r2,b2⟩:=b1.val hk;exact⟨n2,by omega,r2,b2⟩
 ·simp at hj;subst hj;rw[hv]at hw;cases hw;exact⟨m,Fv _,r,hr⟩
theorem Up.arg {ms:List MV}{above:List Int}{t x:T}(u:Up ms above t)(hx:x∈(aD t).2):Up ms above x:=u.part fun n r h=>by obtain⟨n',a,b⟩:=h.arg hx;exact⟨n',by omega,b⟩
theorem Up.kid {ms:List MV}{above:List Int}{t x:T}(u:Up ms above t)(hk:cd ms (aD t).1=none)(hx:x∈(aD t).1.K):Up ms above x:=u.part fun n r h=>by obtain⟨n',a,b⟩:=h.kid hk hx;exact⟨n',by omega,b⟩
theorem Kv {ms:List MV}{above:List Int}{t v w:T}{k:Nat}(u:Up ms above t)(hk:cd ms (aD t).1=some v)(hf:Fl ms k v w):(aD t).1.i ∉ above:=by
 intro q0;have hv:=pq hk;have desc:∀k,∀r,¬Fl ms k v r:=by
  intro k;induction k using Nat.strongRecOn with
  |_ k ihk=>
   intro r h;obtain⟨n',a,r',q⟩:=u _ q0 v hv k r h;obtain⟨m,b,r2,q2⟩:=q.val hk;exact ihk m (by omega) r2 q2
 exact desc k w hf
attribute [local go_sem] dR eZ fW fX fe dU dk cI iI dT cJ di iK cM
theorem nZ {call:aG}{n:Nat}{l all:List (aX×DI)}{tm:Tm}{cx:AC}{h:AH}{nk lo hi:Nat}{hs:List AH}{rds:List Go.AG.Rd}{k:List It}{Q:AEx->AF->AH->Prop}{d:Option Nat}{fin:Bool}(t:Nat)(m kk v:AX){g:Option (Nat×Bool)}:
  RD call n ((⟨d,(.mapUp t m kk v),g⟩,⟨lo,hi,fin⟩)::l) all tm cx h nk hs rds k Q=dC call n .acts (wants g tm) d (.mapUp t m kk v) lo hi fin l all tm cx h nk hs rds k Q:=eD rfl (by intro e;cases e)
theorem ju (t:Nat)(m k v:AX)(h:AH):birth (.mapUp t m k v) h=h:=(rfl)
attribute [local go_sem] nZ ju
structure Ads where
 pW:Nat
 pM:Nat
 pV:Nat
 pF:Nat
 pD:Nat
 pO:Nat
 kD:Nat
 kO:Nat
structure Ads.Ok (a:Ads)(B:Nat):Prop where
 lt:a.pW<B/\a.pM<B/\a.pV<B/\a.pF<B/\a.pD<B/\a.pO<B/\a.kD<B/\a.kO<B
 neW:a.pW≠a.pM/\a.pW≠a.pV/\a.pW≠a.pF/\a.pW≠a.pD/\a.pW≠a.pO/\a.pW≠a.kD/\a.pW≠a.kO
 neD:a.kD≠a.pM/\a.kD≠a.pV/\a.kD≠a.pF/\a.kD≠a.pD/\a.kD≠a.pO/\a.kD≠a.kO
 neO:a.kO≠a.pM/\a.kO≠a.pV/\a.kO≠a.pF/\a.kO≠a.pD/\a.kO≠a.pO
abbrev FsA (ms:List MV)(a:Ads):=Fs ms a.pW a.pM a.pV a.pF a.pD a.pO a.kD a.kO
abbrev HFA (a:Ads):=HF a.pW a.kD a.kO
def fvF (a:Ads):AV:=.fn 154 [] [.ptr a.pW 0 0,.ptr a.pM 0 0,.ptr a.pV 0 0,.ptr a.pF 0 0]
def fvV (a:Ads):AV:=.fn 152 [] [.ptr a.pD 0 0,.ptr a.pO 0 0,.ptr a.pF 0 0,.ptr a.pM 0 0]
def p22:AV:=.ifc 30 (wt 22)
section
variable {ms:List MV}{a:Ads}{B:Nat}
theorem FsA.setW (ha:a.Ok B){D:List (Int×T)}{O:List (Int×Bool)}{work:Nat}{h:AH}(s:FsA ms a D O work h)(w:Nat):FsA ms a D O w (h.set a.pW (.box [wt (w:Int)])):=by
 have:=ha.neW;exact⟨aC _ _ _,(an (by omega)).trans s.gM,(an (by omega)).trans s.gV,(an (by omega)).trans s.gF,(an (by omega)).trans s.gD,(an (by omega)).trans s.gO,(an (by omega)).trans s.mD,(an (by omega)).trans s.mO⟩
theorem FsA.setD (ha:a.Ok B){D:List (Int×T)}{O:List (Int×Bool)}{work:Nat}{h:AH}(s:FsA ms a D O work h)(D':List (Int×T)):FsA ms a D' O work (h.set a.kD (.map (mpf enc D'))):=by
 have h1:=ha.neW;have h2:=ha.neD;exact⟨(an (by omega)).trans s.gW,(an (by omega)).trans s.gM,(an (by omega)).trans s.gV,(an (by omega)).trans s.gF,(an (by omega)).trans s.gD,(an (by omega)).trans s.gO,aC _ _ _,(an (by omega)).trans s.mO⟩
theorem FsA.setO (ha:a.Ok B){D:List (Int×T)}{O:List (Int×Bool)}{work:Nat}{h:AH}(s:FsA ms a D O work h)(O':List (Int×Bool)):FsA ms a D O' work (h.set a.kO (.map (mpf zd O'))):=by
 have h1:=ha.neW;have h2:=ha.neD;have h3:=ha.neO;exact⟨(an (by omega)).trans s.gW,(an (by omega)).trans s.gM,(an (by omega)).trans s.gV,(an (by omega)).trans s.gF,(an (by omega)).trans s.gD,(an (by omega)).trans s.gO,(an (by omega)).trans s.mD,aC _ _ _⟩
def oJ (ms:List MV)(a:Ads)(above:List Int)(bound:Nat)(q:T×Int×Option Int)(o:bI)(h':AH):Prop:=
 (q.2.1=0/\o=.ret (enc q.1)/\∃D O work,FsA ms a D O work h'/\Sd ms D O above/\work+phi O 0 ms<=bound)∨(q.2.1≠0/\o=.pan p22)
def MD (K:aG)(ms:List MV)(a:Ads)(B n:Nat):Prop:=∀(M:Nat) (t:T) (d:Int) (above:List Int) (c:Option Int) (f:Int) (h:AH) (D:List (Int×T)) (O:List (Int×Bool)) (work:Nat),3*n+5000<=M->size t<=60->0<=d->d+size t<=1000->Ok PL ms.length t d->Up ms above t->Sd ms D O above->FsA ms a D O work h->B<=h.z->work+phi O 0 ms+size t<=1000000->(ge ms n t above c).2.2=some f->
 ∃o h',cS K M (fvF a) [enc t] .no h=some (o,.no,h')/\HFA a h h'/\oJ ms a above (work+phi O 0 ms+size t) (ge ms n t above c) o h'
theorem kv_at {ms:List MV}{i:Nat}{m:MV}(e:ms[i]?=some m)(hk:m.known=true):kv ms (i:Int)=some m.val:=by
 unfold kv;rw[Int.toNat_natCast,e];simp[hk]
theorem c152 {K:aG}(hK:bW K)(ha:a.Ok B){n:Nat}(ih:MD K ms a B n)(g:wb ms)(M:Nat)(hM:3*n+5001<=M)(t:T)(i:Nat)(m:MV)(hi:(aD t).1.i=(i:Int))(hmi:ms[i]?=some m)(hmk:m.known=true)(hkn:cd ms (aD t).1=some m.val)
  (above:List Int) (c:Option Int) (h:AH) (D:List (Int×T)) (O:List (Int×Bool)) (work:Nat) (u:Up ms above t) (s:Sd ms D O above) (fs:FsA ms a D O work h) (hB:B<=h.z) (hw:work+phi O 0 ms<=1000000)
  (hq:(i:Int) ∉ above->∃f,(ge ms n m.val (above++[(i:Int)]) c).2.2=some f) :
  ∃o h',cS K (M+1) (fvV a) [wt (i:Int)] .no h=some (o,.no,h')/\HFA a h h'/\(((i:Int)∈above/\o=.pan p22)∨((i:Int) ∉ above/\oJ ms a above (work+phi O 0 ms) (ge ms n m.val (above++[(i:Int)]) c) o h')):=by
 have hr:Rn (cS K) 152:=lW hK;have lt:=ha.lt;have neW:=ha.neW;have neD:=ha.neD;have neO:=ha.neO;have hkv:=kv_at hmi hmk;have uv:=u.val hkn;rw[hi]at uv;have key:=hr M [.ptr a.pD 0 0,.ptr a.pO 0 0,.ptr a.pF 0 0,.ptr a.pM 0 0] _ _ .no h _ _ _ _ (fun o rc h'=>rc=.no/\HFA a h h'/\(((i:Int)∈above/\o=.pan p22)∨((i:Int) ∉ above/\oJ ms a above (work+phi O 0 ms) (ge ms n m.val (above++[(i:Int)]) c) o h'))) cf152 (ae (ba .i64 (i:Int) _) (aB _)) (by
  obtain⟨H,hH⟩:∃H:AH,H=h.new (.box [wt 0,wt 0,.str (bs []),.nl,.nl]):=⟨_,rfl⟩
  have k0:HK h H:=by subst hH;exact HK.new _ _
  have n0:H.z=h.z+1:=by subst hH;exact ci _ _
  have g6:H.get h.z=some (.box [wt 0,wt 0,.str (bs []),.nl,.nl]):=by subst hH;exact aE _ _
  have fs0:FsA ms a D O work H:=fs.up lt (fun k q=>k0.kw k (by omega));have gD:=fs0.gD;have lD:=fun z ok=>qT enc fs0.mD (i:Int) z ok
  have rt:∀(tm:Tm) (H4:AH) (r:T),nth tm 6=.ptr h.z 0 0->H4.get h.z=some (.box (au r))->HFA a h H4->((i:Int) ∉ above/\oJ ms a above (work+phi O 0 ms) (ge ms n m.val (above++[(i:Int)]) c) (.ret (enc r)) H4)->
    XQ (cS K M) aeB (FA fun o rc h'=>rc=.no/\HFA a h h'/\(((i:Int)∈above/\o=.pan p22)∨((i:Int) ∉ above/\oJ ms a above (work+phi O 0 ms) (ge ms n m.val (above++[(i:Int)]) c) o h'))) .ret ⟨tm,⟨[],.no,none,152⟩⟩ H4:=by
   intro tm H4 r t6 gg hk hf;unfold au at gg;exact iv (.inr rfl) (vs:=[.agg [wt r.kind,wt r.i,.str r.name,.ls (r.L.map aK),.ls (r.K.map enc)]]) (by simp only[go_sem,simprocAttr,aeB,t6,gg]) ⟨_,_,cC (by intro l e;cases e) (iG (ir (eC _) (eL _)) _),rfl,hk,.inr hf⟩
  unfold b152;simp only[go_sem,simprocAttr];rw[<-hH];clear hH;cases hd:lkf D (i:Int) with
  |some v=>
   obtain⟨w,hw1,k,hfl⟩:=s.done _ _ hd;rw[hkv]at hw1;cases hw1;have hna:(i:Int) ∉ above:=by have:=Kv u hkn hfl;rw[hi]at this;exact this
   obtain⟨f,hqf⟩:=hq hna;have hq0:(ge ms n m.val (above++[(i:Int)]) c).2.1=0:=by
    rcases Decidable.em ((ge ms n m.val (above++[(i:Int)]) c).2.1=0) with q|q
    ·exact q
    ·exact absurd hfl ((uA ms n m.val _ c f q hqf uv).2 _ _)
   obtain⟨k2,hfl2⟩:=CL ms n m.val _ c f hq0 hqf;have hv:(ge ms n m.val (above++[(i:Int)]) c).1=v:=Fl.fn _ _ _ _ _ hfl2 hfl;rw[hd]at lD;simp only[]at lD;have hst:=aQ (h:=H.new (.box [wt 0,wt 0,.str (bs []),.nl,.nl])) (k:=H.z) (aE _ _) v;obtain⟨H3,hH3⟩:∃H3:AH,H3=(H.new (.box [wt 0,wt 0,.str (bs []),.nl,.nl])).set H.z (.box (au v)):=⟨_,rfl⟩
   have k3:HK H H3:=by subst hH3;exact HK.new_set _ _ _
   have x3:H3.get H.z=some (.box (au v)):=by subst hH3;exact aC _ _ _
   rw[<-hH3]at hst;clear hH3;have g63:=(k3.kw h.z (by omega)).trans g6;have x3':=x3;unfold au at x3';simp only[go_sem,simprocAttr,Gn,gD,lD,hst,x3',g63];refine rt _ _ v (by simp only[go_sem,simprocAttr]) (aC _ _ _) (((k0.trans k3).f).set _ (.inl (Fv _))) ⟨hna,.inl ⟨hq0,by rw[hv],D,O,work,(fs0.up lt (fun k q=>by rw[an (by omega),k3.kw k (by omega)])),s,Fv _⟩⟩
  |none=>
   rw[hd]at lD;simp only[]at lD;obtain⟨H3,hH3⟩:∃H3:AH,H3=(H.new (.box [wt 0,wt 0,.str (bs []),.nl,.nl])).set H.z (.box [wt 0,wt 0,.str (bs []),.nl,.nl]):=⟨_,rfl⟩
   have k3:HK H H3:=by subst hH3;exact HK.new_set _ _ _
   have n3:H3.z=H.z+1:=by subst hH3;simp only[co,ci]
   have fs3:FsA ms a D O work H3:=fs0.up lt (fun k q=>k3.kw k (by omega));have g63:=(k3.kw h.z (by omega)).trans g6;have gO:=fs3.gO;have lO:=fun z ok=>qT zd fs3.mO (i:Int) z ok
   simp only[go_sem,simprocAttr,Gn,gD,lD];rw[<-hH3];clear hH3;cases ho:lkf O (i:Int) with
   |some b=>
    have:=s.openT _ _ ho;subst this;rw[ho]at lO;have hin:(i:Int)∈above:=by
     rcases (s.opn i).1 (by rw[ho];simp) with q|q
     ·exact q
     ·exact absurd hd q
    obtain⟨M,rfl⟩:∃M',M=M'+1:=⟨M-1,by omega⟩
    have e153:=fun h=>c153 (lW hK) M 22 h
    have lO':=lO (.bool false) false;simp only[cond_false]at lO';have lO'':gZ H3 1 (.bool false) false (.map a.kO) (wt (i:Int))=some (.bool true):=lO';simp only[go_sem,simprocAttr,Ao,gO,lO'',e153];exact jm ⟨rfl,(k0.trans k3).f,.inl ⟨hin,rfl⟩⟩
   |none=>
    rw[ho]at lO;have hna:(i:Int) ∉ above:=fun q=>((s.opn i).2 (.inl q)) ho
    obtain⟨f,hqf⟩:=hq hna;have lO':=lO (.bool false) false;simp only[cond_false]at lO';have mu:=zA zd fs3.mO (i:Int) true;have mu:kN H3 1 (.map a.kO) (wt (i:Int)) (.bool true)=some (H3.set a.kO (.map (mpf zd (stf O (i:Int) true)))):=mu;have fs4:=FsA.setO ha fs3 (stf O (i:Int) true);obtain⟨H4,hH4⟩:∃H4:AH,H4=H3.set a.kO (.map (mpf zd (stf O (i:Int) true))):=⟨_,rfl⟩
    have n4:H4.z=H3.z:=by subst hH4;exact co _ _ _
    have o4:∀k,k≠a.kO->H4.get k=H3.get k:=fun k q=>by subst hH4;exact an q
    rw[<-hH4]at mu fs4;have kk4:HFA a h H4:=by subst hH4;exact((k0.trans k3).f).set _ (.inr (.inr (.inr rfl)))
    clear hH4;have hphi:phi (stf O (i:Int) true) 0 ms+size m.val=phi O 0 ms:=by
     have:=Ir (O:=O) (b:=true) ms 0 i m hmi (by rw[wac];exact ho);rw[wac]at this;exact this
    have s4:Sd ms D (stf O (i:Int) true) (above++[(i:Int)]):=by
     refine⟨s.done,fun j b e=>?_,fun j=>?_⟩
     ·rw[kK]at e;split at e
      ·cases e;rfl
      ·exact s.openT _ _ e
     ·rw[kK];by_cases hj:j=(i:Int)
      ·rw[wae hj];simp[hj]
      ·rw[wad hj,s.opn j];simp[hj]
    obtain⟨sv,okv⟩:=g.val m (wS hmi) hmk;obtain⟨o5,H5,e5,k5,f5⟩:=ih M m.val 0 (above++[(i:Int)]) c f H4 D _ work (by omega) sv (Int.le_refl 0) (by omega) okv uv s4 fs4 (by omega) (by omega) hqf;have hia:=fun H=>aN ie hmi .i64 H
    have gF4:=fs4.gF;have gM4:=fs4.gM;have gD4:=fs4.gD;have kk5:=kk4.trans k5;have n5:=k5.z;have gF4':H4.get a.pF=some (.box [fvF a]):=gF4;have gD5o:H5.get a.pD=some (.box [.map a.kD]):=(k5.kw _ (by omega) (by omega) (by omega) (by omega)).trans gD4;have bqm:AV.beq (.map a.kD) (.map a.kD)=true:=by simp[AV.beq]
    rcases f5 with⟨hz,rfl,D5,O5,work5,fs5,s5,hb5⟩|⟨hz,rfl⟩
    ·have mu5:=zA enc fs5.mD (i:Int) (ge ms n m.val (above++[(i:Int)]) c).1;have fs6:=FsA.setD ha fs5 (stf D5 (i:Int) (ge ms n m.val (above++[(i:Int)]) c).1);obtain⟨H6,hH6⟩:∃H6:AH,H6=H5.set a.kD (.map (mpf enc (stf D5 (i:Int) (ge ms n m.val (above++[(i:Int)]) c).1))):=⟨_,rfl⟩
     have n6:H6.z=H5.z:=by subst hH6;exact co _ _ _
     have o6:∀k,k≠a.kD->H6.get k=H5.get k:=fun k q=>by subst hH6;exact an q
     rw[<-hH6]at mu5 fs6;have kk6:HFA a h H6:=by subst hH6;exact kk5.set _ (.inr (.inr (.inl rfl)))
     clear hH6;have l6:=qT enc fs6.mD (i:Int) (.agg [wt 0,wt 0,.str (bs []),.nl,.nl]) false;rw[kK,wae rfl]at l6;simp only[cond_false]at l6;have gD6:=fs6.gD;have g66:H6.get h.z=some (.box [wt 0,wt 0,.str (bs []),.nl,.nl]):=by rw[o6 _ (by omega),k5.kw _ (by omega) (by omega) (by omega) (by omega),o4 _ (by omega)];exact g63
     have hs6:=aQ g66 (ge ms n m.val (above++[(i:Int)]) c).1;have s6:Sd ms (stf D5 (i:Int) (ge ms n m.val (above++[(i:Int)]) c).1) O5 above:=by
      refine⟨fun j v e=>?_,s5.openT,fun j=>?_⟩
      ·rw[kK]at e;split at e
       ·rename_i hj;cases e;exact⟨m.val,by rw[hj];exact hkv,CL ms n m.val _ c f hz hqf⟩
       ·exact s5.done _ _ e
      ·rw[s5.opn j,kK];by_cases hj:j=(i:Int)
       ·rw[wae hj];simp[hj]
       ·rw[wad hj];simp[hj]
     simp only[go_sem,simprocAttr,Ao,gO,lO',Gp,mu,Gq,gD4,gF4',gM4,hia,sJ,e5,gD5o,bqm,mu5,RH,gD6,l6,hs6];refine rt _ _ (ge ms n m.val (above++[(i:Int)]) c).1 (by simp only[go_sem,simprocAttr]) (aC _ _ _) (kk6.set _ (.inl (Fv _))) ⟨hna,.inl ⟨hz,rfl,_,_,work5,fs6.up lt (fun k q=>an (by omega)),s6,by omega⟩⟩
    ·simp only[go_sem,simprocAttr,Ao,gO,lO',Gp,mu,Gq,gD4,gF4',gM4,hia,sJ,e5,bqm];exact jm ⟨rfl,kk5,.inr ⟨hna,.inr ⟨hz,rfl⟩⟩⟩)
 obtain⟨o,rc,h',e,rfl,q⟩:=key;exact⟨o,h',e,q⟩
end
attribute [local go_sem] dR eZ fW fX fe dU dk cI iI dT cJ di iK cM nZ ju
structure oU (a:Ads)(b7:Nat)(cells:List AV)(h0 h:AH):Prop where
 g6:h.get (h0.z+1)=some (.box [wt 0,wt 0,.str (bs []),.nl,.nl])
 g7:h.get b7=some (.box cells)
 kw:HFA a h0 h
 nx:b7+1<=h.z
 lo:h0.z+2<=b7
section
variable {a:Ads}{B b7:Nat}{cells:List AV}{h0 h h':AH}
theorem oU.up (ha:a.Ok B)(hB:B<=h0.z)(J:oU a b7 cells h0 h)(k:HFA a h h'):oU a b7 cells h0 h':=by
 have:=ha.lt;have:=J.nx;have:=J.lo;exact⟨(k.kw _ (by omega) (by omega) (by omega) (by omega)).trans J.g6,(k.kw _ (by omega) (by omega) (by omega) (by omega)).trans J.g7,J.kw.trans k,Nat.le_trans J.nx k.z,J.lo⟩
theorem oU.low (J:oU a b7 cells h0 h)(hn:h.z<=h'.z)(hk:∀k,k<b7+1->h'.get k=h.get k):oU a b7 cells h0 h':=by
 have:=J.lo;exact⟨(hk _ (by omega)).trans J.g6,(hk _ (by omega)).trans J.g7,⟨Nat.le_trans J.kw.z hn,fun k q1 q2 q3 q4=>(hk k (by omega)).trans (J.kw.kw k q1 q2 q3 q4)⟩,Nat.le_trans J.nx hn,J.lo⟩
theorem oU.put (J:oU a b7 cells h0 h)(cells':List AV):oU a b7 cells' h0 (h.set b7 (.box cells')):=by
 have:=J.lo;exact⟨(an (by omega)).trans J.g6,aC _ _ _,J.kw.set _ (.inl (by omega)),by rw[co];exact J.nx,J.lo⟩
end
structure wi (a:Ads)(b6 b7:Nat)(args:List T)(kn:Bool)(tm:Tm):Prop where
 t1:nth tm 1=.ptr a.pW 0 0
 t3:nth tm 3=.ptr a.pV 0 0
 t4:nth tm 4=.ptr a.pF 0 0
 t6:nth tm 6=.ptr b6 0 0
 t7:nth tm 7=.ptr b7 0 0
 t8:nth tm 8=.ls (args.map enc)
 t9:nth tm 9=.bool kn
structure S154 (ms:List MV)(a:Ads)(above:List Int)(l:List T)(F:T->Option Int->T×Int×Option Int)(c0:Option Int)(bound p:Nat)(cur:List AV)(out:List T)(c':Option Int)(D:List (Int×T))(O:List (Int×Bool))(work:Nat)(h:AH):Prop where
 hcl:cur.length=l.length
 hct:cur.take p=out.map enc
 sq:Sq F l c0 out (l.drop p) c'
 fs:FsA ms a D O work h
 sd:Sd ms D O above
 bd:work+phi O 0 ms+aW (l.drop p)<=bound
section
variable {K:aG}{ms:List MV}{a:Ads}{B n M:Nat}{k:List It}{Q:AEx->AF->AH->Prop}
def I154a (ms:List MV)(a:Ads)(b7:Nat)(cells:List AV)(args:List T)(kn:Bool)(above:List Int)(l:List T)(F:T->Option Int->T×Int×Option Int)(c0:Option Int)(bound:Nat)(V:AV)(h0:AH)(j:Nat)(fr:AF)(h:AH):Prop:=∃tm p cur out c' D O work,p+j=l.length/\fr=⟨tm,⟨[],.no,none,154⟩⟩/\
 wi a (h0.z+1) b7 args kn tm/\nth tm 10=V/\nth tm 63=.ls (l.map enc)/\nth tm 64=wt (l.length:Int)/\nth tm 65=wt (p:Int)/\oU a b7 cells h0 h/\Own (b7+1) 5 true h V cur/\S154 ms a above l F c0 bound p cur out c' D O work h
theorem NY (ha:a.Ok B)(ih:MD K ms a B n)(hM:3*n+5000<=M)(l:List T)(above:List Int)(c0:Option Int)(f:Int)(args:List T)(kn:Bool)(h0:AH)(hB:B<=h0.z)(b7:Nat)(cells:List AV)(bound:Nat)(hbd:bound<=1000000)(hlen:l.length<=60)
  (hks:∀(i:Nat) x,l[i]?=some x->∃d:Int,size x<=60/\0<=d/\d+size x<=1000/\Ok PL ms.length x d/\Up ms above x)
  (hf:(cj (fun x c=>ge ms n x above c) l c0).2.2=some f)
  (hX:∀tm H V out c' D O work,wi a (h0.z+1) b7 args kn tm->nth tm 10=V->oU a b7 cells h0 H->Own (b7+1) 5 true H V (out.map enc)->FsA ms a D O work H->Sd ms D O above->work+phi O 0 ms<=bound->cj (fun x c=>ge ms n x above c) l c0=(out,0,c')->R (cS K M) 60000 k Q (.exit 0) ⟨tm,⟨[],.no,none,154⟩⟩ H)
  (hR:∀tm H,HFA a h0 H->(cj (fun x c=>ge ms n x above c) l c0).2.1≠0->R (cS K M) 60000 k Q (.panic p22) ⟨tm,⟨[],.no,none,154⟩⟩ H)
  (tm:Tm) (H:AH) (V:AV) (cur:List AV) (D:List (Int×T)) (O:List (Int×Bool)) (work:Nat) (L:wi a (h0.z+1) b7 args kn tm) (t10:nth tm 10=V) (t63:nth tm 63=.ls (l.map enc)) (t64:nth tm 64=wt (l.length:Int)) (t65:nth tm 65=wt 0) (J:oU a b7 cells h0 H) (o:Own (b7+1) 5 true H V cur) (hcl:cur.length=l.length) (fs:FsA ms a D O work H) (sd:Sd ms D O above) (bd:work+phi O 0 ms+aW l<=bound) :
  R (cS K M) 60000 (.code (.loop Hn)::k) Q .normal ⟨tm,⟨[],.no,none,154⟩⟩ H:=by
 refine bD (I154a ms a b7 cells args kn above l (fun x c=>ge ms n x above c) c0 bound V h0) l.length (by omega) ⟨tm,0,cur,[],c0,D,O,work,wac _,rfl,L,t10,t63,t64,t65,J,o,⟨hcl,by simp,Sq.start _ _,fs,sd,bd⟩⟩ ?_;clear t10 t63 t64 t65 L J o fs sd bd hcl D O work cur tm H;rintro j fr H ⟨tm,p,cur,out,c',D,O,work,hp,rfl,L,t10,t63,t64,t65,J,o,s⟩;have lt:=ha.lt;have t4:=L.t4;have nx:=J.nx;have lo:=J.lo;unfold Hn;simp only[go_sem,simprocAttr,RG,t64,t65];refine bj (fun hlt=>?_) (fun hge=>?_)
 ·have hlt:p<l.length:=by omega
  have hget:l[p]?=some l[p]:=wO hlt;obtain⟨d,hs,hd0,hd1,hok,hup⟩:=hks p _ hget;have hdr:l.drop p=l[p]::l.drop (p+1):=List.drop_eq_getElem_cons hlt;obtain⟨hcl,hct,sq,fs,sd,bd⟩:=s;rw[hdr]at sq bd;have ha':=fun h=>aN aZ hget .i64 h
  revert hs hok hd1 sq bd ha' hup;generalize l[p]=x;intro hs hd1 hok hup sq bd ha';obtain⟨f',hf'⟩:=Sq.cur (F:=fun x c=>ge ms n x above c) (da ms n above) sq hf;simp only[aW]at bd;have hst6:=aQ (h:=H.new (.box [wt 0,wt 0,.str (bs []),.nl,.nl])) (k:=H.z) (aE _ _) x;obtain⟨H7,hH7⟩:∃H7:AH,H7=(H.new (.box [wt 0,wt 0,.str (bs []),.nl,.nl])).set H.z (.box (au x)):=⟨_,rfl⟩
  have k7:HK H H7:=by subst hH7;exact HK.new_set _ _ _
  have x7:H7.get H.z=some (.box (au x)):=by subst hH7;exact aC _ _ _
  have n7:=k7.z;rw[<-hH7]at hst6;clear hH7;have kp:=J.kw.z;have fs7:FsA ms a D O work H7:=fs.up lt (fun k q=>k7.kw k (by omega));have gF:H7.get a.pF=some (.box [fvF a]):=fs7.gF;obtain⟨o8,H8,e8,k8,f8⟩:=ih M x d above c' f' H7 D O work hM hs hd0 hd1 hok hup sd fs7 (by omega) (by omega) hf';have J8:=(J.up ha hB (k7.f)).up ha hB k8;have n8:=k8.z;have o8':Own (b7+1) 5 true H8 V cur:=bp o (by omega) (fun i q1 q2=>by rw[k8.kw i (by omega) (by omega) (by omega) (by omega),k7.kw i q2]);unfold au at x7;rw[aA x]at e8;have hw:=aM p (by omega);rcases f8 with⟨hz,rfl,D8,O8,work8,fs8,sd8,bd8⟩|⟨hz,rfl⟩
  ·obtain⟨pp,h9,i9,st9,o9,n9,k9,_,_⟩:=pc (x:=enc (ge ms n x above c').1) (a:=p) o8' (by omega) (aZ _) (fu _) (gh _) .i64;simp only[go_sem,simprocAttr,Gm,t63,t65,ha',hst6,t10,t4,gF,x7,e8,i9,st9,hw];refine⟨j-1,by omega,_,p+1,cur.set p (enc (ge ms n x above c').1),out++[(ge ms n x above c').1],(ge ms n x above c').2.2,D8,O8,work8,by omega,rfl,⟨by simp only[go_sem,simprocAttr,L.t1],by simp only[go_sem,simprocAttr,L.t3],by simp only[go_sem,simprocAttr,t4],by simp only[go_sem,simprocAttr,L.t6],by simp only[go_sem,simprocAttr,L.t7],by simp only[go_sem,simprocAttr,L.t8],by simp only[go_sem,simprocAttr,L.t9]⟩,by simp only[go_sem,simprocAttr,t10],by simp only[go_sem,simprocAttr,t63],by simp only[go_sem,simprocAttr,t64],by simp only[go_sem,simprocAttr],J8.low (by omega) k9,o9,⟨by rw[List.length_set];exact hcl,?_,sq.step hz,fs8.up lt (fun k q=>k9 k (by omega)),sd8,by omega⟩⟩;rw[nR _ _ _ (by omega),hct,List.map_append];rfl
  ·simp only[go_sem,simprocAttr,Gm,t63,t65,ha',hst6,t10,t4,gF,x7,e8];refine hR _ _ J8.kw ?_;rw[sq.err hz];exact hz
 ·have:p=l.length:=by omega
  subst this;obtain⟨hcl,hct,sq,fs,sd,bd⟩:=s;rw[List.drop_length]at sq bd;rw[List.take_of_length_le (by omega)]at hct;subst hct;simp only[go_sem,simprocAttr];exact hX _ H V out c' D O work ⟨by simp only[go_sem,simprocAttr,L.t1],by simp only[go_sem,simprocAttr,L.t3],by simp only[go_sem,simprocAttr,t4],by simp only[go_sem,simprocAttr,L.t6],by simp only[go_sem,simprocAttr,L.t7],by simp only[go_sem,simprocAttr,L.t8],by simp only[go_sem,simprocAttr,L.t9]⟩ (by simp only[go_sem,simprocAttr,t10]) J o fs sd (by simpa [aW] using bd) sq.done
def I154b (ms:List MV)(a:Ads)(b7:Nat)(cells:List AV)(args:List T)(kn:Bool)(above:List Int)(F:T->Option Int->T×Int×Option Int)(c0:Option Int)(bound:Nat)(V:AV)(Z:AH->Prop)(Bz:Nat)(h0:AH)(j:Nat)(fr:AF)(h:AH):Prop:=∃tm p cur out c' D O work,p+j=args.length/\fr=⟨tm,⟨[],.no,none,154⟩⟩/\
 wi a (h0.z+1) b7 args kn tm/\nth tm 13=V/\nth tm 82=.ls (args.map enc)/\nth tm 83=wt (args.length:Int)/\nth tm 84=wt (p:Int)/\oU a b7 cells h0 h/\Own Bz 5 true h V cur/\Z h/\Bz<=h.z/\S154 ms a above args F c0 bound p cur out c' D O work h
theorem NX (ha:a.Ok B)(ih:MD K ms a B n)(hM:3*n+5000<=M)(above:List Int)(c0:Option Int)(f:Int)(args:List T)(kn:Bool)(h0:AH)(hB:B<=h0.z)(b7:Nat)(cells:List AV)(bound:Nat)(hbd:bound<=1000000)(hlen:args.length<=60)(Z:AH->Prop)(Bz:Nat)(hBz:b7+1<=Bz)(hZ:∀h h',Z h->Bz<=h.z->HFA a h h'->Z h')(hZ2:∀h h',Z h->h'.z=h.z->(∀k,k<Bz->h'.get k=h.get k)->Z h')
  (hks:∀(i:Nat) x,args[i]?=some x->∃d:Int,size x<=60/\0<=d/\d+size x<=1000/\Ok PL ms.length x d/\Up ms above x)
  (hf:(cj (fun x c=>ge ms n x above c) args c0).2.2=some f)
  (hX:∀tm H V out c' D O work,wi a (h0.z+1) b7 args kn tm->nth tm 13=V->oU a b7 cells h0 H->Own Bz 5 true H V (out.map enc)->Z H->Bz<=H.z->FsA ms a D O work H->Sd ms D O above->work+phi O 0 ms<=bound->cj (fun x c=>ge ms n x above c) args c0=(out,0,c')->R (cS K M) 60000 k Q (.exit 2) ⟨tm,⟨[],.no,none,154⟩⟩ H)
  (hR:∀tm H,HFA a h0 H->(cj (fun x c=>ge ms n x above c) args c0).2.1≠0->R (cS K M) 60000 k Q (.panic p22) ⟨tm,⟨[],.no,none,154⟩⟩ H)
  (tm:Tm) (H:AH) (V:AV) (cur:List AV) (D:List (Int×T)) (O:List (Int×Bool)) (work:Nat) (L:wi a (h0.z+1) b7 args kn tm) (t13:nth tm 13=V) (t82:nth tm 82=.ls (args.map enc)) (t83:nth tm 83=wt (args.length:Int)) (t84:nth tm 84=wt 0) (J:oU a b7 cells h0 H) (o:Own Bz 5 true H V cur) (hz0:Z H) (hBn:Bz<=H.z) (hcl:cur.length=args.length) (fs:FsA ms a D O work H) (sd:Sd ms D O above) (bd:work+phi O 0 ms+aW args<=bound) :
  R (cS K M) 60000 (.code (.loop Hm)::k) Q .normal ⟨tm,⟨[],.no,none,154⟩⟩ H:=by
 refine bD (I154b ms a b7 cells args kn above (fun x c=>ge ms n x above c) c0 bound V Z Bz h0) args.length (by omega) ⟨tm,0,cur,[],c0,D,O,work,wac _,rfl,L,t13,t82,t83,t84,J,o,hz0,hBn,⟨hcl,by simp,Sq.start _ _,fs,sd,bd⟩⟩ ?_;clear t13 t82 t83 t84 L J o hz0 hBn fs sd bd hcl D O work cur tm H;rintro j fr H ⟨tm,p,cur,out,c',D,O,work,hp,rfl,L,t13,t82,t83,t84,J,o,hz,hBn,s⟩;have lt:=ha.lt;have t4:=L.t4;have nx:=J.nx;have lo:=J.lo;unfold Hm;simp only[go_sem,simprocAttr,RF,t83,t84];refine bj (fun hlt=>?_) (fun hge=>?_)
 ·have hlt:p<args.length:=by omega
  have hget:args[p]?=some args[p]:=wO hlt;obtain⟨d,hs,hd0,hd1,hok,hup⟩:=hks p _ hget;have hdr:args.drop p=args[p]::args.drop (p+1):=List.drop_eq_getElem_cons hlt;obtain⟨hcl,hct,sq,fs,sd,bd⟩:=s;rw[hdr]at sq bd;have ha':=fun h=>aN aZ hget .i64 h
  revert hs hok hd1 sq bd ha' hup;generalize args[p]=x;intro hs hd1 hok hup sq bd ha';obtain⟨f',hf'⟩:=Sq.cur (F:=fun x c=>ge ms n x above c) (da ms n above) sq hf;simp only[aW]at bd;have hst6:=aQ (h:=H.new (.box [wt 0,wt 0,.str (bs []),.nl,.nl])) (k:=H.z) (aE _ _) x;obtain⟨H7,hH7⟩:∃H7:AH,H7=(H.new (.box [wt 0,wt 0,.str (bs []),.nl,.nl])).set H.z (.box (au x)):=⟨_,rfl⟩
  have k7:HK H H7:=by subst hH7;exact HK.new_set _ _ _
  have x7:H7.get H.z=some (.box (au x)):=by subst hH7;exact aC _ _ _
  have n7:=k7.z;rw[<-hH7]at hst6;clear hH7;have kp:=J.kw.z;have fs7:FsA ms a D O work H7:=fs.up lt (fun k q=>k7.kw k (by omega));have gF:H7.get a.pF=some (.box [fvF a]):=fs7.gF;obtain⟨o8,H8,e8,k8,f8⟩:=ih M x d above c' f' H7 D O work hM hs hd0 hd1 hok hup sd fs7 (by omega) (by omega) hf';have J8:=(J.up ha hB (k7.f)).up ha hB k8;have hz8:=hZ _ _ (hZ _ _ hz hBn k7.f) (by omega) k8;have n8:=k8.z;have o8':Own Bz 5 true H8 V cur:=bp o (by omega) (fun i q1 q2=>by rw[k8.kw i (by omega) (by omega) (by omega) (by omega),k7.kw i q2]);unfold au at x7;rw[aA x]at e8;have hw:=aM p (by omega);rcases f8 with⟨hz',rfl,D8,O8,work8,fs8,sd8,bd8⟩|⟨hz',rfl⟩
  ·obtain⟨pp,h9,i9,st9,o9,n9,k9,_,_⟩:=pc (x:=enc (ge ms n x above c').1) (a:=p) o8' (by omega) (aZ _) (fu _) (gh _) .i64;simp only[go_sem,simprocAttr,Gl,t82,t84,ha',hst6,t13,t4,gF,x7,e8,i9,st9,hw];refine⟨j-1,by omega,_,p+1,cur.set p (enc (ge ms n x above c').1),out++[(ge ms n x above c').1],(ge ms n x above c').2.2,D8,O8,work8,by omega,rfl,⟨by simp only[go_sem,simprocAttr,L.t1],by simp only[go_sem,simprocAttr,L.t3],by simp only[go_sem,simprocAttr,t4],by simp only[go_sem,simprocAttr,L.t6],by simp only[go_sem,simprocAttr,L.t7],by simp only[go_sem,simprocAttr,L.t8],by simp only[go_sem,simprocAttr,L.t9]⟩,by simp only[go_sem,simprocAttr,t13],by simp only[go_sem,simprocAttr,t82],by simp only[go_sem,simprocAttr,t83],by simp only[go_sem,simprocAttr],J8.low (by omega) (fun k q=>k9 k (by omega)),o9,hZ2 _ _ hz8 n9 k9,by omega,⟨by rw[List.length_set];exact hcl,?_,sq.step hz',fs8.up lt (fun k q=>k9 k (by omega)),sd8,by omega⟩⟩;rw[nR _ _ _ (by omega),hct,List.map_append];rfl
  ·simp only[go_sem,simprocAttr,Gl,t82,t84,ha',hst6,t13,t4,gF,x7,e8];refine hR _ _ J8.kw ?_;rw[sq.err hz'];exact hz'
 ·have:p=args.length:=by omega
  subst this;obtain⟨hcl,hct,sq,fs,sd,bd⟩:=s;rw[List.drop_length]at sq bd;rw[List.take_of_length_le (by omega)]at hct;subst hct;simp only[go_sem,simprocAttr];exact hX _ H V out c' D O work ⟨by simp only[go_sem,simprocAttr,L.t1],by simp only[go_sem,simprocAttr,L.t3],by simp only[go_sem,simprocAttr,t4],by simp only[go_sem,simprocAttr,L.t6],by simp only[go_sem,simprocAttr,L.t7],by simp only[go_sem,simprocAttr,L.t8],by simp only[go_sem,simprocAttr,L.t9]⟩ (by simp only[go_sem,simprocAttr,t13]) J o hz hBn fs sd (by simpa [aW] using bd) sq.done
end
