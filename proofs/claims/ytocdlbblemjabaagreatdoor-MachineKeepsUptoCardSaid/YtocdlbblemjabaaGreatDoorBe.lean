/- MachineKeeps: finding a name in an environment (no condition). -/
import Derived.Test.YtocdlbblemjabaaGreatDoorBd
namespace Go.Proofs.YtocdlbblemjabaaGreatDoor
open Go.AG Go.AG.MK
theorem WN {call:aQ}{n:Nat}{k:List It}{Q:AEx->AF->AH->Prop}{f:AX}{ps:List Nat}{sa b:aF}{tm:Tm}{ds:List DF}{rc:RC}{fid:FuncId}{h h2:AH}{v:AV}{rc':RC}{st:LoopState}{tm':Tm}{ps':List Nat}{sa' b':aF}{fid':FuncId}{ex:AEx}(p q:Nat)(hp:h.z=p)(hq:p+1=q)
  (hc:call (ev f tm) [.yld q] .no ((h.new (.dfd false)).new (.loop .ready none tm ps sa b fid))=some (.ret v,rc',h2)) (hl:h2.get q=some (.loop st (some ex) tm' ps' sa' b' fid')) (hb:rB st=false)
  (hR:R call n k Q ex ⟨tm,⟨.mark p::ds,rc,none,fid⟩⟩ (h2.set q (.loop .exhausted (some ex) tm' ps' sa' b' fid'))) :
  R call n (.code (.rangeFunc f ps sa b)::k) Q .normal ⟨tm,⟨ds,rc,none,fid⟩⟩ h:=by
 subst hp hq;show WP (aD (rE ⟨tm,⟨ds,rc,none,fid⟩⟩ ps sa b h) fun p=>aD (call (ev f tm) [.yld p.1] .no p.2.2) fun q=>wA q.1 (xV p.2.1 ⟨tm,⟨ds,rc,none,fid⟩⟩) p.1 q.2.2) (R call n k Q);have e1:rE ⟨tm,⟨ds,rc,none,fid⟩⟩ ps sa b h=some (h.z+1,[.mark h.z],(h.new (.dfd false)).new (.loop .ready none tm ps sa b fid)):=rfl;rw[e1,aI];simp only[hc,aI];show WP (pO ⟨tm,⟨.mark h.z::ds,rc,none,fid⟩⟩ (h.z+1) h2) _;unfold pO;rw[hl,aI];show WP (cond (rB st) none (some (ex,⟨tm,⟨.mark h.z::ds,rc,none,fid⟩⟩,h2.set (h.z+1) (.loop .exhausted (some ex) tm' ps' sa' b' fid')))) _;rw[hb];exact eH.2 hR
theorem ahK {call:aQ}{n l:Nat}{args:List AV}{h:AH}{st:LoopState}{pend:Option AEx}{tm:Tm}{ps:List Nat}{sa b:aF}{f:FuncId}{P:Bool->AH->Prop}(hl:h.get l=some (.loop st pend tm ps sa b f))(hlen:args.length=ps.length)
  (hR:R call n [.code sa] (fun e fr1 h1=>e=.normal/\∃ h2,oE h1 l=some h2/\R call n [.code b] (fun e2 fr2 h3=>fr2.cx.dfs=[]/\∃ t h4,ZU e2 l h3=some (.ret (.bool t),.no,h4)/\P t h4) .normal fr1 h2) .normal ⟨oa ps args tm,⟨[],.no,some l,f⟩⟩ h) :
  ∃ t h',zh call n l args h=some (.ret (.bool t),.no,h')/\P t h':=by
 obtain⟨e,fr1,h1,q1,rfl,h2,q2,e2,fr2,h3,q3,q4,t,h4,q5,hP⟩:=hR;refine⟨t,h4,?_,hP⟩;unfold zh;rw[hl,aI];show cond (Nat.beq (len args) (len ps)) _ _=_;rw[bH,bH,hlen,eX,cond_true];unfold Aa;rw[q1,aI];show aD (oE h1 l) _=_;rw[q2,aI,q3,aI];show cond (adJ fr2.cx.dfs) _ _=_;rw[q4];exact q5
theorem ve {call:aQ}{m:Md}: ∀ (l:List Nat) (h:AH),l.Nodup->(∀ k∈l,h.get k=some (.dfd false))->∃ h',kJ (l.map .mark) call m h=some (m,h')/\h'.z=h.z/\∀ k,k ∉ l->h'.get k=h.get k
 |[],h,_,_=>⟨h,rfl,rfl,fun _ _=>rfl⟩
 |k::l,h,hn,hg=>by
  rw[List.nodup_cons]at hn;obtain⟨h',e,n,g⟩:=ve (call:=call) (m:=m) l (h.set k (.dfd true)) hn.2 (fun j hj=>by rw[aB (by rintro rfl;exact hn.1 hj)];exact hg j (by simp[hj]));refine⟨h',?_,by rw[n,alb],fun j hj=>?_⟩
  ·show aD (aD (h.get k) fun o=>aD (afv o) fun t=>cond t none (some (m,h.set k (.dfd true)))) (fun p=>kJ (l.map .mark) call p.1 p.2)=_;rw[hg k (by simp)];exact e
  ·simp only[List.mem_cons,not_or]at hj;rw[g j hj.2,aB hj.1]
theorem akn (h:AH)(s:ByteArray):dB h 1 (.str s)=.val (.ptr h.z 0 0) (h.new (.box [.str s])):=(rfl)
def zE:List AV:=[i_ 0,i_ 0,i_ 0,i_ 0,i_ 0,i_ 0,.str (bs []),.nl,.nl]
def zD:List AV:=[i_ 0,.str (bs []),i_ 0,i_ 0,i_ 0,.str (bs []),.nl,.nl,i_ 0,i_ 0,.str (bs []),.nl,.nl,i_ 0,.nl,i_ 0,i_ 0,i_ 0,.str (bs []),.nl,.nl,.nl,.nl]
structure ahF (tm:Tm)(nm:ByteArray)(b q:Nat)(h:AH):Prop where
 gq:h.get q=some (.loop .ready none tm [20,21] lO lN (142))
 g3:h.get b=some (.box [.str nm])
 g4:h.get (b+1)=some (.box zE)
 g5:h.get (b+2)=some (.box [i_ 0])
 lt:b+3<=q/\q<h.z
structure ak4 (tm:Tm)(nm:ByteArray)(b q:Nat)(e:EV)(h:AH):Prop where
 gq:h.get q=some (.loop .done (some .ret) tm [20,21] lO lN (142))
 g4:h.get (b+1)=some (.box (bo e))
 g5:h.get (b+2)=some (.box [i_ 0])
theorem db (a b:ByteArray):(a==b)=decide (a=b):=by
 have e1:(a==b)=(a.data==b.data):=rfl;rw[e1];by_cases h:a=b
 ·subst h;simp
 ·have:a.data≠b.data:=fun q=>h (by cases a;cases b;simp_all)
  simp[h,this]
theorem y257 {K:aQ}(hK:aZ K)(m:Nat){tm:Tm}{nm:ByteArray}{b q:Nat}(t3:nth tm 3=.ptr b 0 0)(t4:nth tm 4=.ptr (b+1) 0 0)(t5:nth tm 5=.ptr (b+2) 0 0):
  Yd K (m+1) q nm [q,b+1,b+2] (ahF tm nm b q) (ak4 tm nm b q) where
 up h h' y k:=by
  have:=y.lt;exact⟨(k.kw _ o_).trans y.gq,(k.kw _ o_).trans y.g3,(k.kw _ o_).trans y.g4,(k.kw _ o_).trans y.g5,this.1,Nat.lt_of_lt_of_le this.2 k.z⟩
 run s e h y:=by
  have lt:=y.lt;have ec:iw [.str s,.agg (bo e)] h=([.str s,.agg (bo e)],h):=ae (gK _ _) (ae (by have:=zj e h;rw[fM]at this;exact this) (aC _));have e0:cS K (m+1) (.yld q) [.str s,.agg (bo e)] .no h=uo (zh (cS K m) 1000000000000 q [.str s,.agg (bo e)] h):=Vn ec (hK.yld _ _ _ _);have key:=ahK (call:=cS K m) (n:=1000000000000) (args:=[.str s,.agg (bo e)]) (P:=fun t h'=>HW [q,b+1,b+2] h h'/\((s=nm/\t=false/\ak4 tm nm b q e h')∨(s≠nm/\t=true/\ahF tm nm b q h'))) y.gq rfl ?_
  ·obtain⟨t,h',e1,e2,e3⟩:=key;refine⟨t,h',?_,e2,e3⟩;rw[e0,e1];exact oL (aS (by intro l e;cases e) (aW _ _))
  have hst:=bp (h:=h.new (.box zE)) (vs:=bo e) (sz:=9) (aE _ _) rfl rfl;unfold zE at hst;obtain⟨H1,hH1⟩:∃ H1:AH,H1=(h.new (.box [i_ 0,i_ 0,i_ 0,i_ 0,i_ 0,i_ 0,.str (bs []),.nl,.nl])).set h.z (.box (bo e)):=⟨_,rfl⟩
  rw[<- hH1]at hst;have k1:HK h H1:=by rw[hH1];exact(HK.new _ _).set _ (e_ _)
  have g9:H1.get h.z=some (.box (bo e)):=by rw[hH1,aH]
  have n1:H1.z=h.z+1:=by rw[hH1,alb,ala]
  clear hH1;unfold lO;simp only[go_sem,simprocAttr,hst];refine⟨_,BM ((k1.kw _ o_).trans y.gq),?_⟩;obtain⟨H2,hH2⟩:∃ H2:AH,H2=H1.set q (.loop .busy none tm [20,21] lO lN (142)):=⟨_,rfl⟩
  rw[<- hH2];have k2:∀ k,k≠q->H2.get k=H1.get k:=fun k hk=>by rw[hH2,aB hk]
  have gq2:H2.get q=some (.loop .busy none tm [20,21] lO lN (142)):=by rw[hH2,aH]
  have n2:H2.z=h.z+1:=by rw[hH2,alb,n1]
  clear hH2;have g3:=((k2 b o_).trans (k1.kw _ o_)).trans y.g3;have g4:=((k2 (b+1) o_).trans (k1.kw _ o_)).trans y.g4;have g5:=((k2 (b+2) o_).trans (k1.kw _ o_)).trans y.g5;have g92:=(k2 h.z o_).trans g9;have keep:∀ k,k<h.z->k≠q->H2.get k=h.get k:=fun k hk hq=>(k2 k hq).trans (k1.kw k hk)
  have ld9:cj (.ptr h.z 0 0) H2 true 9=some (.agg (bo e)):=by
   rw[eV,g92,aI,eU,lK _ _ _ (by show 0+9<=9;omega)];rfl
  unfold lN;simp only[go_sem,simprocAttr,t3,g3,db];by_cases hs:s=nm
  ·have st4:=bp (vs:=bo e) (sz:=9) g4 rfl rfl;have hd:decide (s=nm)=true:=T_ hs;have hg5:(H2.set (b+1) (.box (bo e))).get (b+2)=some (.box [i_ 0]):=by rw[aB o_];exact g5
   simp only[go_sem,simprocAttr,hd,ld9,t4,st4,t5,hg5];refine⟨false,((H2.set (b+1) (.box (bo e))).set (b+2) (.box [i_ 0])).set q (.loop .done (some .ret) tm [20,21] lO lN (142)),?_,?_,.inl ⟨hs,rfl,?_⟩⟩
   ·show ug false (mO _ q .done (some .ret))=_;rw[xY (by rw[aB o_,aB o_];exact gq2)];rfl
   ·refine⟨by rw[alb,alb,alb,n2];omega,fun k hk hn=>?_⟩;simp only[List.mem_cons,List.not_mem_nil,or_false,not_or]at hn;rw[aB hn.1,aB hn.2.2,aB hn.2.1];exact keep k hk hn.1
   ·exact⟨aH _ _ _,by rw[aB o_,aB o_,aH],by rw[aB o_,aH]⟩
  ·have hd:decide (s=nm)=false:=D_ hs;simp only[go_sem,simprocAttr,hd];refine⟨true,H2.set q (.loop .ready none tm [20,21] lO lN (142)),?_,?_,.inr ⟨hs,rfl,?_⟩⟩
   ·show ug true (mO _ q .ready none)=_;rw[xY gq2];rfl
   ·refine⟨by rw[alb,n2];omega,fun k hk hn=>?_⟩;simp only[List.mem_cons,List.not_mem_nil,or_false,not_or]at hn;rw[aB hn.1];exact keep k hk hn.1
   ·exact⟨aH _ _ _,by rw[aB o_];exact g3,by rw[aB o_];exact g4,by rw[aB o_];exact g5,lt.1,by rw[alb,n2];omega⟩
def wY (o:Option EV):AV:=match o with
 |some e=>.tup [rq e,i_ 0]
 |none=>.tup [.agg [i_ 0,i_ 0,i_ 0,i_ 0,i_ 0,i_ 0,.str (bs []),.ls [],.ls []],i_ 9]
structure adR (env:List DV)(nm:ByteArray)(h0:AH)(ds:List Nat)(p:Nat)(h:AH):Prop where
 kw:HK h0 h
 nx:h0.z+3<=h.z
 g3:h.get h0.z=some (.box [.str nm])
 g4:h.get (h0.z+1)=some (.box zE)
 g5:h.get (h0.z+2)=some (.box [i_ 0])
 nd:ds.Nodup
 mks:∀ k∈ds,h0.z+3<=k/\k<h.z/\h.get k=some (.dfd false)
 fd:iy nm env 0=iy nm (env.drop p) p
theorem adR.up {env:List DV}{nm:ByteArray}{h0 h h':AH}{ds:List Nat}{p:Nat}(J:adR env nm h0 ds p h)(k:HK h h'):adR env nm h0 ds p h':=by
 have nx:=J.nx;exact⟨J.kw.trans k,Nat.le_trans nx k.z,(k.kw _ o_).trans J.g3,(k.kw _ o_).trans J.g4,(k.kw _ o_).trans J.g5,J.nd,fun j hj=>by
  obtain⟨a,b,c⟩:=J.mks j hj;exact⟨a,Nat.lt_of_lt_of_le b k.z,(k.kw _ b).trans c⟩,J.fd⟩
def I257 (env:List DV)(nm:ByteArray)(h0:AH)(j:Nat)(fr:AF)(h:AH):Prop:=∃ tm p ds,p+j=env.length/\fr=⟨tm,⟨ds.map .mark,.no,none,142⟩⟩/\adR env nm h0 ds p h/\
 nth tm 0=.ls (env.map bW)/\nth tm 3=.ptr h0.z 0 0/\nth tm 4=.ptr (h0.z+1) 0 0/\nth tm 5=.ptr (h0.z+2) 0 0/\nth tm 10=.ls (env.map bW)/\nth tm 11=i_ (env.length:Int)/\nth tm 12=i_ (p:Int)
structure DS (d:DV):Prop where
 ctors:d.ctors.length<1000
 funs:d.funs.length<1000
 name:d.name.size<=100000
theorem c257 {K:aQ}(hK:aZ K)(m:Nat)(env:List DV)(nm:ByteArray)(h:AH)(hd:∀ d∈env,DS d)(hl:env.length<1000):
  ∃ v h',cS K (m+3) (.fn 142 [] []) [.ls (env.map bW),.str nm] .no h=some (.ret v,.no,h')/\v=wY (iy nm env 0)/\HK h h':=by
 have run:=fun hR=>(mw hK) (m+2) [] [.ls (env.map bW),.str nm] _ .no h h _ _ _ (fun o rc h'=>rc=.no/\o=.ret (wY (iy nm env 0))/\HK h h') cf257 (ae (jD _ _) (ae (gK _ _) (aC _))) hR
 suffices hR:R (cS K (m+2)) 1000000000000 [.code ak2] (XQ (cS K (m+2)) ZK (ru fun o rc h'=>rc=.no/\o=.ret (wY (iy nm env 0))/\HK h h')) .normal ⟨cT ([.ls (env.map bW),.str nm]++[]),⟨[],.no,none,142⟩⟩ h by
  obtain⟨o,rc,h',e,rfl,rfl,k⟩:=run hR;exact⟨_,h',e,rfl,k⟩
 clear run;have n1:=ala h (.box [.str nm]);have n2:=ala (h.new (.box [.str nm])) (.box zE);have n3:=ala ((h.new (.box [.str nm])).new (.box zE)) (.box [i_ 0]);obtain⟨H,hH⟩:∃ H:AH,H=((h.new (.box [.str nm])).new (.box zE)).new (.box [i_ 0]):=⟨_,rfl⟩
 have J0:adR env nm h [] 0 H:=by
  refine⟨by rw[hH];exact((HK.new _ _).add _).add _,by rw[hH];omega,?_,?_,?_,List.nodup_nil,(fun k hk=>by cases hk),rfl⟩
  ·rw[hH,aL o_,aL o_,aE]
  ·rw[hH,aL o_,<- n1,aE]
  ·have e2:h.z+2=((h.new (.box [.str nm])).new (.box zE)).z:=o_;rw[hH,e2,aE]
 unfold zE at hH n2;unfold ak2;simp only[go_sem,simprocAttr,A_,akn,n1,n2,XE];rw[<- hH];clear hH;refine bB (I257 env nm h) env.length o_ ⟨_,0,[],o_,rfl,J0,k_,k_,k_,k_,k_,k_,k_⟩ ?_;clear J0;rintro j fr H1 ⟨tm,p,ds,hp,rfl,J,t0,t3,t4,t5,t10,t11,t12⟩;unfold Zz;simp only[go_sem,simprocAttr,t11,t12,XF];have nx:=J.nx;have fin:∀ (tm:Tm) (ds:List Nat) (H2:AH) (e:AEx) (cs:List AV) (x:Int),(e=.normal∨e=.ret)->nth tm 4=.ptr (h.z+1) 0 0->nth tm 5=.ptr (h.z+2) 0 0->ds.Nodup->(∀ k∈ds,h.z+3<=k/\H2.get k=some (.dfd false))->HK h H2->H2.get (h.z+1)=some (.box cs)->cs.length=9->H2.get (h.z+2)=some (.box [i_ x])->
   (∀ H,cG (.tup [.agg cs,i_ x]) H=(wY (iy nm env 0),H))->
   XQ (cS K (m+2)) ZK (ru fun o rc h'=>rc=.no/\o=.ret (wY (iy nm env 0))/\HK h h') e ⟨tm,⟨ds.map .mark,.no,none,142⟩⟩ H2:=by
  intro tm ds H2 e cs x he t4 t5 hnd hmk kk g4 hcs g5 hcan;obtain⟨H3,e3,n3,k3⟩:=ve (call:=cS K (m+2)) (m:=.returning) ds H2 hnd (fun k hk=>(hmk k hk).2);have g43:=(k3 (h.z+1) (fun hk=>by have:=(hmk _ hk).1;omega)).trans g4;have g53:=(k3 (h.z+2) (fun hk=>by have:=(hmk _ hk).1;omega)).trans g5;have hg:rj true 9 0 cs=some (.agg cs):=by
   rw[lK _ _ _ o_,List.drop_zero,List.take_of_length_le o_]
  have hev:hO ZK tm H3=some [.agg cs,i_ x]:=by
   unfold ZK;rw[kV,kV,pL,t4,t5,eV,eV,g43,g53,aI,aI,eU,eU,hg,aI];rfl
  refine⟨?_,.returning,H3,?_,[.agg cs,i_ x],hev,_,H3,hcan H3,rfl,rfl,?_⟩
  ·rcases he with rfl|rfl<;>intro id e<;>cases e
  ·rcases he with rfl|rfl<;>exact e3
  ·exact⟨by rw[n3];exact kk.z,fun k hk=>(k3 k (fun hm=>by have:=(hmk _ hm).1;omega)).trans (kk.kw k hk)⟩
 refine aX (fun hlt=>?_) (fun hge=>?_)
 ·have hlt:p<env.length:=o_;have hget:env[p]?=some env[p]:=a_ hlt;have hmem:=m_ hget;revert hget hmem;generalize env[p]=d;intro hget hmem;have ds_:=hd d hmem;have ha:=fun h=>aK eL hget .i64 h
  have hld:=fun h=>cI (v:=bW d) (sz:=23) rfl rfl h
  have hst:=bp (h:=H1.new (.box zD)) (vs:=aM d) (sz:=23) (aE _ _) rfl rfl;rw[cA]at ha hld;obtain⟨H2,hH2⟩:∃ H2:AH,H2=(H1.new (.box zD)).set H1.z (.box (aM d)):=⟨_,rfl⟩
  rw[<- hH2]at hst;have k2:HK H1 H2:=by rw[hH2];exact(HK.new _ _).set _ (e_ _)
  have g2:H2.get H1.z=some (.box (aM d)):=by rw[hH2,aH]
  have nx2:H2.z=H1.z+1:=by rw[hH2,alb,ala]
  clear hH2;have ld2:cj (.ptr H1.z 0 0) H2 true 23=some (.agg (aM d)):=by
   rw[eV,g2,aI,eU,lK _ _ _ (by show 0+23<=23;omega)];rfl
  obtain⟨v3,H3,e3,rfl,nx3,gd3,ga3,k3⟩:=c282 hK (m+1) d (p:Int) H2;rw[cA]at e3;unfold zD at hst;have hw2:=aP p o_;simp only[go_sem,simprocAttr,XG,t10,t12,ha,hld,hst,XH,ld2,e3];have J3:=(J.up k2).up k3;have nH3:=J3.nx
  suffices key:∀ T:Tm,nth T 0=.ls (env.map bW)->nth T 3=.ptr h.z 0 0->nth T 4=.ptr (h.z+1) 0 0->nth T 5=.ptr (h.z+2) 0 0->nth T 10=.ls (env.map bW)->nth T 11=i_ (env.length:Int)->nth T 12=i_ (p:Int)->nth T 19=.fn (199) [] [.ptr (H2.z+1) 0 0,.ptr H2.z 0 0]->
    R (cS K (m+2)) 1000000000000 [.code (.rangeFunc (.t 19) [20,21] lO lN),.out 2,.out 1,.code (.region [⟨some 26,.bin .add .num (.t 12) (.c (i_ 1)),none⟩,⟨some 12,.mv (.t 26),none⟩])]
     (LQ (cS K (m+2)) 1000000000000 (I257 env nm h) j [.out 0,.code HO] (XQ (cS K (m+2)) ZK (ru fun o rc h'=>rc=.no/\o=.ret (wY (iy nm env 0))/\HK h h'))) .normal ⟨T,⟨ds.map .mark,.no,none,142⟩⟩ H3 by
   exact key _ (q_ t0) (q_ t3) (q_ t4) (q_ t5) (q_ t10) (q_ t11) (q_ t12) k_
  clear t0 t3 t4 t5 t10 t11 t12;intro T t0 t3 t4 t5 t10 t11 t12 t19;have kH:HK h H3:=J3.kw;obtain⟨Hy,hHy⟩:∃ Hy:AH,Hy=(H3.new (.dfd false)).new (.loop .ready none T [20,21] lO lN (142)):=⟨_,rfl⟩
  have n4:=ala H3 (.dfd false);have ny:Hy.z=H3.z+2:=by rw[hHy,ala,n4]
  have ky:HK H3 Hy:=by rw[hHy];exact(HK.new _ _).add _
  have gm:Hy.get H3.z=some (.dfd false):=by rw[hHy,aL o_,aE]
  have gq:Hy.get (H3.z+1)=some (.loop .ready none T [20,21] lO lN (142)):=by rw[hHy,<- n4,aE]
  have J4:=J3.up ky;have hY:ahF T nm h.z (H3.z+1) Hy:=⟨gq,J4.g3,J4.g4,J4.g5,o_,o_⟩;obtain⟨v,H5,e5,rfl,w5,l5⟩:=c302 hK (y257 hK m t3 t4 t5) hY (d:=d) (a:=(p:Int)) (pa:=H2.z+1) (pd:=H2.z) ((ky.kw _ o_).trans ga3) ((ky.kw _ o_).trans gd3) o_ o_ (by simp;omega) (by simp;omega) (by intro k hk;simp at hk;omega) ds_.ctors ds_.funs ds_.name;have w5n:=w5.z;have fd:iy nm env 0=match lookN nm (iT d p) with|some e=>some e|none=>iy nm (env.drop (p+1)) (p+1):=by
   rw[J.fd,vT hget,iy];cases lookN nm (iT d p)<;>rfl
  have mkk:∀ o,∀ k∈H3.z::ds,h.z+3<=k/\k<H5.z/\(H5.set (H3.z+1) o).get k=some (.dfd false):=by
   intro o k hk;rcases List.mem_cons.1 hk with rfl|hk
   ·exact⟨nH3,o_,by rw[aB o_,w5.kw _ o_ (by simp;omega)];exact gm⟩
   ·obtain⟨q1,q2,q3⟩:=J4.mks k hk;have q4:=(J3.mks k hk).2.1;exact⟨q1,o_,by rw[aB o_,w5.kw _ o_ (by simp;omega)];exact q3⟩
  have nds:(H3.z::ds).Nodup:=by
   rw[List.nodup_cons];exact⟨fun hm=>by have:=(J3.mks _ hm).2.1;omega,J.nd⟩
  have k6:∀ o,HK h (H5.set (H3.z+1) o):=fun o=>⟨by rw[alb];have:=kH.z;omega,fun k hk=>by
   rw[aB o_,w5.kw _ o_ (by simp;omega),ky.kw _ o_];exact kH.kw k hk⟩
  cases hlk:lookN nm (iT d p) with
  |none=>
   rw[hlk]at l5 fd;have l5:ahF T nm h.z (H3.z+1) H5:=l5;refine GP H3.z (H3.z+1) rfl rfl (by rw[<- hHy];simp only[go_sem,simprocAttr,t19];exact e5) l5.gq rfl ?_;have hw3:=hw2;simp only[go_sem,simprocAttr,t12,hw3];refine⟨j-1,o_,_,p+1,H3.z::ds,o_,rfl,⟨k6 _,by rw[alb];omega,by rw[aB o_];exact l5.g3,by rw[aB o_];exact l5.g4,by rw[aB o_];exact l5.g5,nds,fun k hk=>?_,fd⟩,q_ t0,q_ t3,q_ t4,q_ t5,q_ t10,q_ t11,k_⟩;obtain⟨q1,q2,q3⟩:=mkk _ k hk;exact⟨q1,by rw[alb];exact q2,q3⟩
  |some e=>
   rw[hlk]at l5 fd;have l5:ak4 T nm h.z (H3.z+1) e H5:=l5;refine WN H3.z (H3.z+1) rfl rfl (by rw[<- hHy];simp only[go_sem,simprocAttr,t19];exact e5) l5.gq rfl ?_;simp only[go_sem,simprocAttr];refine fin _ (H3.z::ds) _ _ (bo e) 0 (.inr rfl) (q_ t4) (q_ t5) nds (fun k hk=>⟨(mkk (.dfd true) k hk).1,(mkk _ k hk).2.2⟩) (k6 _) (by rw[aB o_];exact l5.g4) rfl (by rw[aB o_];exact l5.g5) fun H=>?_
   rw[fd];exact bz (ae (by have:=zj e H;rw[fM]at this ⊢;exact this) (ae (aG _ _ _) (aC _)))
 ·have hp5:p=env.length:=o_;subst hp5;have fd:=J.fd;rw[List.drop_length]at fd;have g4:=J.g4;have g5:=J.g5;have st4:=bp (vs:=zE) (sz:=9) g4 rfl rfl;have hg5:(H1.set (h.z+1) (.box zE)).get (h.z+2)=some (.box [i_ 0]):=by rw[aB o_];exact g5
  unfold zE at st4 hg5;simp only[go_sem,simprocAttr,HO,t4,t5,st4,hg5];refine fin _ ds _ _ zE 9 (.inr rfl) (q_ t4) (q_ t5) J.nd (fun k hk=>?_) ?_ (by rw[aB o_,aH];rfl) rfl (by rw[aH]) fun H=>?_
  ·obtain⟨q1,q2,q3⟩:=J.mks k hk;exact⟨q1,by rw[aB o_,aB o_];exact q3⟩
  ·exact(J.kw.set _ o_).set _ o_
  ·rw[fd];refine bz (ae ?_ (ae (aG _ _ _) (aC _)));rw[bG (by simp[zE,AV.free,AV.ale])];simp[zE,AV.norm,AV.ald]
def zDl:List AV:=[i_ 0,.str (bs []),i_ 0,i_ 0,i_ 0,.str (bs []),.ls [],.ls [],i_ 0,i_ 0,.str (bs []),.ls [],.ls [],i_ 0,.ls [],i_ 0,i_ 0,i_ 0,.str (bs []),.ls [],.ls [],.ls [],.ls []]
def ahB:AV:=.tup [.agg zDl,i_ 0,.bool false]
def Hx (env:List DV)(nm:ByteArray):AV:=match iy nm env 0 with
 |none=>ahB
 |some e=>match env[e.decl.toNat]? with
  |none=>ahB
  |some d=>if e.kind=3 then .tup [bW d,i_ (-1),.bool true] else if e.kind=4 then .tup [bW d,i_ e.item,.bool true] else if e.kind=5 then .tup [bW d,i_ (-2),.bool true] else ahB
theorem pX (h:AH):cE (.agg zD) h=(.agg zDl,h):=by
 rw[bG (by simp[zD,AV.free,AV.ale])];simp[zD,zDl,AV.norm,AV.ald]
theorem fk {h:AH}{k sz:Nat}{cs:List AV}(g:h.get k=some (.box cs))(hl:cs.length=sz):cj (.ptr k 0 0) h true sz=some (.agg cs):=by
 rw[eV,g,aI,eU,lK _ _ _ o_,List.drop_zero,List.take_of_length_le o_]
theorem uT (e:EV):wY (some e)=.tup [rq e,i_ 0]:=rfl
theorem uU:wY none=.tup [.agg [i_ 0,i_ 0,i_ 0,i_ 0,i_ 0,i_ 0,.str (bs []),.ls [],.ls []],i_ 9]:=rfl
theorem fP (h:AH)(z:List AV):bT h z []=.val (.agg z) h:=(rfl)
theorem c324 {K:aQ}(hK:aZ K)(m:Nat)(env:List DV)(nm:ByteArray)(h:AH)(hd:∀ d∈env,DS d)(hl:env.length<1000):
  ∃ v h',cS K (m+4) (.fn 182 [] []) [.ls (env.map bW),.str nm] .no h=some (.ret v,.no,h')/\v=Hx env nm/\HK h h':=by
 refine bh hK cf324 (ae (jD _ _) (ae (gK _ _) (aC _))) ?_;obtain⟨H,hH⟩:∃ H:AH,H=h.new (.box zD):=⟨_,rfl⟩
 have k1:HK h H:=by rw[hH];exact HK.new _ _
 have n1:H.z=h.z+1:=by rw[hH,ala]
 have g4:H.get h.z=some (.box zD):=by rw[hH,aE]
 unfold zD at hH;unfold b324;simp only[go_sem,simprocAttr,A_,Xo];rw[<- hH];clear hH;obtain⟨v,H1,e1,rfl,k2⟩:=c257 hK m env nm H hd hl;have g41:=(k2.kw _ o_).trans g4;have n2:=k2.z;have k12:=k1.trans k2;have fin:∀ (tm:Tm) (H2:AH) (e:AEx) (cs:List AV) (j:Int) (b:Bool) (r:AV),(e=.normal∨e=.ret)->nth tm 4=.ptr h.z 0 0->nth tm 5=i_ j->nth tm 6=.bool b->HK h H2->H2.get h.z=some (.box cs)->cs.length=23->cE (.agg cs) H2=(r,H2)->Hx env nm=.tup [r,i_ j,.bool b]->
   IQ akQ (fun v h2=>∃ v' h3,cG v h2=(v',h3)/\v'=Hx env nm/\HK h h3) e ⟨tm,⟨[],.no,none,182⟩⟩ H2:=by
  intro tm H2 e cs j b r he t4 t5 t6 kk g hcs hcan hf;refine⟨rfl,rfl,he,[.agg cs,i_ j,.bool b],?_,_,H2,bz (ae hcan (ae (aG _ _ _) (ae (aW _ _) (aC _)))),hf.symm,kk⟩;unfold akQ;rw[kV,lS,lS,pL,t4,t5,t6,fk g hcs];rfl
 cases hfe:iy nm env 0 with
 |none=>
  rw[hfe]at e1;have st4:=bp (k:=h.z) (h:=(H1.new (.box zE)).set H1.z (.box [i_ 0,i_ 0,i_ 0,i_ 0,i_ 0,i_ 0,.str (bs []),.ls [],.ls []])) (vs:=zD) (sz:=23) (by rw[aB o_,aL o_];exact g41) rfl rfl;rw[uU]at e1;unfold zD zE at st4;simp only[go_sem,simprocAttr,e1,HI,fP,st4];refine fin _ _ _ zD 0 false _ (.inr rfl) k_ k_ k_ ?_ (by rw[aH];rfl) rfl (pX _) (by unfold Hx;rw[hfe];rfl);exact((k12.add _).set (j:=H1.z) _ o_).set (j:=h.z) _ (e_ _)
 |some e=>
  have ent:=pg env env 0 e (fun j=>by rw[z_]) hfe;have hdec:∃ n d,e.decl=(n:Nat)/\env[n]?=some d/\(e.kind=0∨e.kind=1∨e.kind=2∨e.kind=3∨e.kind=4∨e.kind=5∨e.kind=6):=by
   cases ent with
   |plain k n d p t h1 h2 h3=>exact⟨n,d,rfl,h1,by simp only;omega⟩
   |ctor n j d c p h1 h2 h3=>exact⟨n,d,rfl,h1,by simp⟩
   |rcr n d p t h1 h2=>exact⟨n,d,rfl,h1,by simp⟩
   |fn n j d f p h1 h2 h3=>exact⟨n,d,rfl,h1,by simp⟩
  obtain⟨n,d,hn,hget,hk⟩:=hdec;have hfr:Hx env nm=if e.kind=3 then .tup [bW d,i_ (-1),.bool true] else if e.kind=4 then .tup [bW d,i_ e.item,.bool true] else if e.kind=5 then .tup [bW d,i_ (-2),.bool true] else ahB:=by
   unfold Hx;rw[hfe];simp only;rw[hn,Int.toNat_natCast,hget]
  rw[hfe]at e1;have ha:=fun h=>aK eL hget .i64 h
  have hld:=fun h=>cI (v:=bW d) (sz:=23) rfl rfl h
  have hst:=bp (h:=H1.new (.box zE)) (vs:=bo e) (sz:=9) (aE _ _) rfl rfl;obtain⟨H2,hH2⟩:∃ H2:AH,H2=(H1.new (.box zE)).set H1.z (.box (bo e)):=⟨_,rfl⟩
  rw[<- hH2]at hst;have k3:HK H1 H2:=by rw[hH2];exact(HK.new _ _).set _ (e_ _)
  have g7:H2.get H1.z=some (.box (bo e)):=by rw[hH2,aH]
  have n3:H2.z=H1.z+1:=by rw[hH2,alb,ala]
  clear hH2;have g42:=(k3.kw _ o_).trans g41;have st4:=bp (vs:=aM d) (sz:=23) g42 rfl rfl;have st0:=bp (vs:=zD) (sz:=23) g42 rfl rfl;have hgo:∀ o,(H2.set h.z o).get H1.z=some (.box (bo e)):=fun o=>by rw[aB o_];exact g7
  have kf:∀ o,HK h (H2.set h.z o):=fun o=>(k12.trans k3).set _ (e_ _)
  rw[cA]at ha hld;rw[uT,fM]at e1;unfold zE at hst;unfold zD at st0;unfold bo at g7 hgo;rw[hn]at g7 hgo;simp only[go_sem,simprocAttr,e1,HI,hst,Xp,g7];by_cases h3:e.kind=3
  ·have d3:decide (e.kind=3)=true:=T_ h3;simp only[go_sem,simprocAttr,d3,g7,ha,hld,st4];exact fin _ _ _ (aM d) (-1) true _ (.inr rfl) k_ k_ k_ (kf _) (aH _ _ _) rfl (by rw[<- cA];exact mr d _) (by rw[hfr,P_ h3])
  ·have d3:decide (e.kind=3)=false:=D_ h3;by_cases h4:e.kind=4
   ·have d4:decide (e.kind=4)=true:=T_ h4;simp only[go_sem,simprocAttr,d3,d4,g7,hgo,ha,hld,st4];exact fin _ _ _ (aM d) e.item true _ (.inr rfl) k_ k_ k_ (kf _) (aH _ _ _) rfl (by rw[<- cA];exact mr d _) (by rw[hfr,N_ h3,P_ h4])
   ·have d4:decide (e.kind=4)=false:=D_ h4;by_cases h5:e.kind=5
    ·have d5:decide (e.kind=5)=true:=T_ h5;simp only[go_sem,simprocAttr,d3,d4,d5,g7,ha,hld,st4];exact fin _ _ _ (aM d) (-2) true _ (.inr rfl) k_ k_ k_ (kf _) (aH _ _ _) rfl (by rw[<- cA];exact mr d _) (by rw[hfr,N_ h3,N_ h4,P_ h5])
    ·have d5:decide (e.kind=5)=false:=D_ h5;simp only[go_sem,simprocAttr,d3,d4,d5,Xq,fP,st0];exact fin _ _ _ zD 0 false _ (.inr rfl) k_ k_ k_ (kf _) (by rw[aH];rfl) rfl (pX _) (by rw[hfr,N_ h3,N_ h4,N_ h5];rfl)
