/- MachineKeeps: the table of functions; calls whose arguments and results are in one form; maps, rows, calls that may end with a panic (no condition). -/
import Derived.Test.YtocdlbblemjabaaGreatDoorAw
import Derived.Lib.LaidTab
import Derived.Lib.ItoaNum
namespace Go.Proofs.YtocdlbblemjabaaGreatDoor
open Go.AG Go.AG.MK
attribute [go_sem] aku akx RD_mv adu WT adw adv WO Tb akB RD_un WQ WS WR GS akA Td adx aky dE_eq Wj Sq Wl Sr ac3 Wm aiM aiL aiP ac4 aiN abo abn WD WE SO WI GH Dc SP GI CY zL SQ WG CZ Db Da xE xF GJ VH ait ais Rj FJ UJ Rm BX Bv Bw Bx WK wS List.append_eq List.nil_append List.cons_append Bool.true_or Bool.or_true Bool.false_or Bool.or_false Bool.true_and Bool.and_true Bool.false_and Bool.and_false Bool.not_not R_nil aks R_seq WM akt R_ret ads akv abN UD Di GR zU zR SZ Df GQ Dh Ta R_op R_opg abM UC ahV abL ahX ahZ ah0 Te adA akC WU aie UX acb ack Vb Ry acm aic RK ahY abK aiJ Wp acy SA Vu FV RF RE UL Cu Rz Uy ahP ie RJ RI FN Cw ach FZ ace Vg UZ RL Rq FL adm adl FO Ga acg dT acv Vr Vs okV_s okH_s ain ev_t ev_c ah7 ah8 Vi RQ QP QO QN QM QL QK BP Bn mG aia ado adn acU acN acT acO acP acQ acR acS abv abu ahO acA Vx acC acB abp abq ahM aI aE aL aH aB ym gV mc Er Sd CE eV kq eB uP Ge dN jb gi cu eU BE lK bN gU om yU SD SB GD Sz EI Vw Vv RT Vt pL lS kV max2 cond_true cond_false decide_true decide_false Bool.not_true Bool.not_false List.getElem?_cons_zero List.getElem?_cons_succ List.length_cons List.length_nil L_ List.map_cons List.map_nil List.drop_zero List.take_succ_cons List.take_zero List.drop_succ_cons z_ Nat.add_zero Option.some.injEq exists_eq_left' exists_eq_left dH.ret.injEq dH.pan.injEq AV.int.injEq AV.bool.injEq ne_eq not_true_eq_false not_false_eq_true true_and and_true e_ eq_self
theorem k_{p:Prop}(h:p:=by simp only[go_sem,simprocAttr]):p:=h
theorem q_{α:Type}{a b c:α}(h:b=c)(g:a=b:=by simp only[go_sem,simprocAttr]):a=c:=g.trans h
theorem HH {P:Program}{w w':World}(name:String)(x:Array Value)(h:w.var? P name=some x)(hh:∀ b,b<w.heap.size->w'.heap[b]?=w.heap[b]?):w'.var? P name=some x:=by
 unfold World.var? at h ⊢;cases hg:P.globalNamed name with
 |none=>rw[hg]at h;cases h
 |some g=>
  rw[hg]at h;simp only[Option.bind_some]at h ⊢;cases e:w.heap[g]? with
  |none=>rw[e]at h;cases h
  |some o=>rw[hh g (Array.getElem?_eq_some_iff.1 e).1,e];rw[e]at h;exact h
def WY:AG.Ini where
 p w:=Lib.TabIs Tryz.prog w "internal/strconv.uint64pow10" .u64 Lib.pow10Tab
 up _w _w' hh _ h:=HH _ _ h hh
theorem hmix:Tryz.prog.follows .mixedOrders=true:=r_
theorem aiy:OC Tryz.prog=true:=r_
noncomputable def CI:AG.Cx:=cxOf Tryz.prog aaX hmix WY
theorem hEG:Dk CI EG:=aiH Tryz.prog aaX _ hmix aiy WY
theorem Ck (f:FuncId):EG.pure f=false:=rfl
def niM:List Nat:=[97,107]
def noM:List Nat:=[107,147,203]
def xW:List Nat:=[96,139,98,35,73,31,60,97,61,65,62,100,99,140,101,141,102,63,67,66,64,103,104,144,105,146,106,148,147,59,29,34,57,58,56,95,15,94,137,142,178,199,145,182,7,8,13,19,22,23,24,25,26,28,40,41,44,45,46,47,48,49,50,51,55,78,79,82,83,84,85,86,87,88,89,90,91,92,93,120,121,124,125,126,127,128,129,130,131,132,133,134,135,136,143,161,162,163,164,165,166,167,168,169,170,171,172,179,180,181,251,185,189,190,193,194,195,196,200,201,202,203,204,205,206,207,208,209,210,211,219,220,222,223,150]
structure aZ (K:aQ):Prop where
 fn:∀ f,f∈xW->∀ c a rc h,K (.fn f [] c) a rc h=none
 bnd:∀ f,f∈xW->∀ b c a rc h,K (.fn f b c) a rc h=none
 yld:∀ l a rc h,K (.yld l) a rc h=none
def dpM:List Nat:=[92]
noncomputable def cS (K:aQ)(m:Nat):aQ:=mJ K EG 1000000000000 niM noM dpM m
theorem afA {K:aQ}(hk:cK CI K)(m:Nat):cK CI (cS K m):=OI hEG hk 1000000000000 niM noM dpM m
structure HK (h h':AH):Prop where
 z:h.z<=h'.z
 kw:∀ k,k<h.z->h'.get k=h.get k
theorem HK.refl (h:AH):HK h h:=⟨e_ _,fun _ _=>rfl⟩
theorem HK.trans {a b c:AH}(x:HK a b)(y:HK b c):HK a c:=⟨Nat.le_trans x.z y.z,fun k hk=>(y.kw k (Nat.lt_of_lt_of_le hk x.z)).trans (x.kw k hk)⟩
theorem HK.new (h:AH)(o:fD):HK h (h.new o):=⟨by rw[ala];omega,fun k hk=>aL o_⟩
theorem HK.set {h0 h:AH}(x:HK h0 h){j:Nat}(o:fD)(hj:h0.z<=j):HK h0 (h.set j o):=⟨by rw[alb];exact x.z,fun k hk=>by rw[aB o_];exact x.kw k hk⟩
theorem HK.add {h0 h:AH}(x:HK h0 h)(o:fD):HK h0 (h.new o):=x.trans (HK.new h o)
section
variable {K:aQ}{m:Nat}{f:Nat}{c a a':List AV}{h h1 h2 h3:AH}{v v':AV}
theorem Pe (hK:aZ K)(e0:iw a h=(a',h1))(hf:f∈xW)(hn:niM.contains f=false)(hd:dpM.contains f=false):cS K (m+1) (.fn f [] c) a .no h=cond (noM.contains f) (lE EG (cS K m) 1000000000000 f (a'++c) .no h1) (uo (lE EG (cS K m) 1000000000000 f (a'++c) .no h1)):=
 EA e0 (show fidIn niM (.fn f [] c)=false from hn) (show fidIn dpM (.fn f [] c)=false from hd) (hK.fn f hf c a' .no h1)
theorem Wx (hK:aZ K)(hf:f∈xW)(hn:niM.contains f=true)(hd:dpM.contains f=false):cS K (m+1) (.fn f [] c) a .no h=cond (noM.contains f) (lE EG (cS K m) 1000000000000 f (a++c) .no h) (uo (lE EG (cS K m) 1000000000000 f (a++c) .no h)):=
 Vo (show fidIn niM (.fn f [] c)=true from hn) (show fidIn dpM (.fn f [] c)=false from hd) (hK.fn f hf c a .no h)
theorem bh (hK:aZ K){nt:Nat}{rs:List bK}{body:aF}{P:AV->AH->Prop}(hcf:EG.cf f=some ⟨nt,rs,body⟩)(e0:iw a h=(a',h1))
  (hR:R (cS K m) 1000000000000 [.code body] (IQ rs fun v h2=>∃ v' h3,cG v h2=(v',h3)/\P v' h3) .normal ⟨cT (a'++c),⟨[],.no,none,f⟩⟩ h1)
  (hf:f∈xW:=by decide) (hn:niM.contains f=false:=by decide) (ho:noM.contains f=false:=by decide) (hd:dpM.contains f=false:=by decide):∃ v h',cS K (m+1) (.fn f [] c) a .no h=some (.ret v,.no,h')/\P v h':=by
 obtain⟨v,h2,e,v',h3,e3,hP⟩:=xQ (hcf) (Ck f) hR;exact⟨v',h3,by rw[Pe hK e0 hf hn hd,ho,cond_false,e,oL e3],hP⟩
theorem ade (hK:aZ K){nt:Nat}{rs:List bK}{body:aF}{P:AV->AH->Prop}(hcf:EG.cf f=some ⟨nt,rs,body⟩)(e0:iw a h=(a',h1))
  (hR:R (cS K m) 1000000000000 [.code body] (IQ rs fun v h2=>∃ v' h3,cG v (xh v h2)=(v',h3)/\P v' h3) .normal ⟨cT (a'++c),⟨[],.no,none,f⟩⟩ h1)
  (hf:f∈xW:=by decide) (hn:niM.contains f=false:=by decide) (ho:noM.contains f=false:=by decide) (hd:dpM.contains f=true:=by decide):∃ v h',cS K (m+1) (.fn f [] c) a .no h=some (.ret v,.no,h')/\P v h':=by
 obtain⟨v,h2,e,v',h3,e3,hP⟩:=xQ (hcf) (Ck f) hR;have st:cS K (m+1) (.fn f [] c) a .no h=uo (Hk (lE EG (cS K m) 1000000000000 f (a'++c) .no h1)):=RR e0 (show fidIn niM (.fn f [] c)=false from hn) (show fidIn noM (.fn f [] c)=false from ho) (show fidIn dpM (.fn f [] c)=true from hd) (hK.fn f hf c a' .no h1);exact⟨v',h3,by rw[st,e,Ru,oL e3],hP⟩
theorem Pg (hK:aZ K){nt:Nat}{rs:List bK}{body:aF}{P:AV->AH->Prop}(hcf:EG.cf f=some ⟨nt,rs,body⟩)(e0:iw a h=(a',h1))
  (hR:R (cS K m) 1000000000000 [.code body] (IQ rs P) .normal ⟨cT (a'++c),⟨[],.no,none,f⟩⟩ h1)
  (hf:f∈xW:=by decide) (hn:niM.contains f=false:=by decide) (ho:noM.contains f=true:=by decide) (hd:dpM.contains f=false:=by decide):∃ v h',cS K (m+1) (.fn f [] c) a .no h=some (.ret v,.no,h')/\P v h':=by
 obtain⟨v,h2,e,hP⟩:=xQ (hcf) (Ck f) hR;exact⟨v,h2,by rw[Pe hK e0 hf hn hd,ho,cond_true,e],hP⟩
theorem akf (hK:aZ K){nt:Nat}{rs:List bK}{body:aF}{P:AV->AH->Prop}(hcf:EG.cf f=some ⟨nt,rs,body⟩)
  (hR:R (cS K m) 1000000000000 [.code body] (IQ rs fun v h2=>∃ v' h3,cG v h2=(v',h3)/\P v' h3) .normal ⟨cT (a++c),⟨[],.no,none,f⟩⟩ h)
  (hf:f∈xW:=by decide) (hn:niM.contains f=true:=by decide) (ho:noM.contains f=false:=by decide) (hd:dpM.contains f=false:=by decide):∃ v h',cS K (m+1) (.fn f [] c) a .no h=some (.ret v,.no,h')/\P v h':=by
 obtain⟨v,h2,e,v',h3,e3,hP⟩:=xQ (hcf) (Ck f) hR;exact⟨v',h3,by rw[Wx hK hf hn hd,ho,cond_false,e,oL e3],hP⟩
theorem rV (e0:iw a h=(a',h1))(e:K (.fn f [] c) a' .no h1=some (.ret v,.no,h1))(hv:cG v h1=(v,h1))(m:Nat)(hn:niM.contains f=false:=by decide)(hd:dpM.contains f=false:=by decide):cS K m (.fn f [] c) a .no h=some (.ret v,.no,h1):=
 Gc e0 (show fidIn niM (.fn f [] c)=false from hn) (show fidIn dpM (.fn f [] c)=false from hd) e hv
theorem jo (e0:iw a h=(a',h1))(e1:iw a' h1=(a',h1))(hn:niM.contains f=false:=by decide):cS K m (.fn f [] c) a .no h=cS K m (.fn f [] c) a' .no h1:=acs e0 e1 (show fidIn niM (.fn f [] c)=false from hn)
end
theorem aU (t:T):enc t=.agg [i_ t.kind,i_ t.idx,.str t.name,.ls (t.L.map ba),.ls (t.K.map enc)]:=by cases t;exact BI _ _ _ _ _
def aJ (t:T):List AV:=[i_ t.kind,i_ t.idx,.str t.name,.ls (t.L.map ba),.ls (t.K.map enc)]
theorem dF (t:T):enc t=.agg (aJ t):=aU t
theorem zJ {a b:AV}(e:a.norm=b)(hb:b.free=true):a.free=true:=by rw[<- tj,e];exact hb
theorem aa0 {a:AV}{t:T}(e:a.norm=enc t)(h:AH):cE a h=(enc t,h):=by rw[bG (zJ e (fW t)),e]
theorem bR (t:T)(h:AH):cE (enc t) h=(enc t,h):=aa0 (iL t) h
theorem pY (l:List T)(h:AH):cE (.ls (l.map enc)) h=(.ls (l.map enc),h):=by
 rw[bG (show(AV.ls (l.map enc)).free=true by simp only[AV.free];exact uZ l)];simp only[AV.norm,uY]
theorem pZ (l:List LL)(h:AH):cE (.ls (l.map ba)) h=(.ls (l.map ba),h):=by
 rw[bG (show(AV.ls (l.map ba)).free=true by simp only[AV.free];exact bE hJ l)];simp only[AV.norm,bw fL l]
theorem jz (l:LL)(h:AH):cE (ba l) h=(ba l,h):=by
 rw[bG (hJ l),fL]
theorem xK {k i:Int}{nm:ByteArray}{ls:List LL}{ks:List T}{x4 x5:AV}(h4:x4.norm=.ls (ls.map ba))(h5:x5.norm=.ls (ks.map enc)):(AV.agg [i_ k,i_ i,.str nm,x4,x5]).norm=enc (.mk k i nm ls ks):=by
 rw[BI];simp only[AV.norm,AV.ald,h4,h5]
section
variable {call:aQ}{n:Nat}{d:Option Nat}{lo hi:Nat}{fin:Bool}{l all:List (aV×DI)}{tm:Tm}{cx:AC}{h:AH}{nk:Nat}{hs:List AH}{rds:List AG.Rd}{k:List It}{Q:AEx->AF->AH->Prop}
theorem akz (az:List AX){g:Option (Nat×Bool)}: RD call n ((⟨d,(.builtin .max az),g⟩,⟨lo,hi,fin⟩)::l) all tm cx h nk hs rds k Q=dC call n .still (wants g tm) d (.builtin .max az) lo hi fin l all tm cx h nk hs rds k Q:=eI rfl (by intro e;cases e)
theorem Tc (t:Nat)(z:AV)(x i:AX)(ok:Bool){g:Option (Nat×Bool)}: RD call n ((⟨d,(.lookup t z x i ok),g⟩,⟨lo,hi,fin⟩)::l) all tm cx h nk hs rds k Q=dC call n .reads (wants g tm) d (.lookup t z x i ok) lo hi fin l all tm cx h nk hs rds k Q:=eI rfl (by intro e;cases e)
theorem zM (t:Nat)(z:AV)(x i:AX)(ok:Bool)(h:AH):birth (.lookup t z x i ok) h=h:=(rfl)
end
theorem dI (a b:Int):cN 1 (i_ a) (i_ b)=some (decide (a=b)):=by
 show cond (TZ .i64 .i64) (some (Dq a b)) none=_;rw[yZ,lX];rfl
theorem sM (a b:List UInt8):adP a b=decide (a=b):=by
 have e:=lu (bs a) (bs b);have h1:((bs a)==(bs b))=decide (a=b):=by
  have e1:((bs a)==(bs b))=((bs a).data==(bs b).data):=rfl;rw[e1];by_cases h:a=b
  ·subst h;simp
  ·have:(bs a).data≠(bs b).data:=fun q=>h (by simpa [bs] using q)
   simp[h,this]
 exact e.trans h1
theorem lD (a b:List UInt8):cN 2 (.str (bs a)) (.str (bs b))=some (decide (a=b)):=by
 show some (adP a b)=_;rw[sM]
def Tk (p:Int×Int):AV:=.agg [i_ p.1,i_ p.2]
theorem qO (a b:Int×Int):cN 3 (Tk a) (Tk b)=some (decide (a=b)):=by
 show(aD (eM 1 (i_ a.1) (i_ b.1)) fun s=>cond s (eM 1 (i_ a.2) (i_ b.2)) (some false))=_;have e:∀ x y:Int,eM 1 (i_ x) (i_ y)=some (decide (x=y)):=dI
 rw[e,e,aI];obtain⟨a1,a2⟩:=a;obtain⟨b1,b2⟩:=b;by_cases h:a1=b1
 ·subst h;by_cases h2:a2=b2<;>simp[h2]
 ·simp[h]
section
variable {κ α:Type}[DecidableEq κ](kf:κ->AV)(f:α->AV)(t:Nat)
def mpg (L:List (κ×α)):List (AV×AV):=L.map fun e=>(kf e.1,f e.2)
def lkg:List (κ×α)->κ->Option α
 |[],_=>none
 |e::L,k=>if k=e.1 then some e.2 else lkg L k
def stg:List (κ×α)->κ->α->List (κ×α)
 |[],k,v=>[(k,v)]
 |e::L,k,v=>if k=e.1 then (k,v)::L else e::stg L k v
theorem sF {L:List (κ×α)}{k:κ}{v:α}(h:lkg L k=some v):(k,v)∈L:=by
 induction L with
 |nil=>cases h
 |cons e L ih=>
  rw[lkg]at h;by_cases q:k=e.1
  ·rw[P_ q]at h;cases h;rw[q];exact List.mem_cons_self
  ·rw[N_ q]at h;exact List.mem_cons_of_mem _ (ih h)
theorem stg_mem {L:List (κ×α)}{k:κ}{v:α}{e:κ×α}(h:e∈stg L k v):e=(k,v)∨e∈L:=by
 induction L with
 |nil=>simp only[stg,List.mem_singleton]at h;exact .inl h
 |cons x L ih=>
  rw[stg]at h;by_cases q:k=x.1
  ·rw[P_ q]at h;rcases List.mem_cons.1 h with h|h
   ·exact .inl h
   ·exact .inr (List.mem_cons_of_mem _ h)
  ·rw[N_ q]at h;rcases List.mem_cons.1 h with h|h
   ·exact .inr (by rw[h];exact List.mem_cons_self)
   ·rcases ih h with h|h
    ·exact .inl h
    ·exact .inr (List.mem_cons_of_mem _ h)
theorem abw {L:List (κ×α)}{k:κ}(v:α)(h:lkg L k=none):stg L k v=L++[(k,v)]:=by
 induction L with
 |nil=>rfl
 |cons x L ih=>
  rw[lkg]at h;rw[stg];by_cases q:k=x.1
  ·rw[P_ q]at h;cases h
  ·rw[N_ q]at h ⊢;rw[ih h];rfl
variable {kf t}(hk:∀ a b,cN t (kf a) (kf b)=some (decide (a=b)))
include hk
theorem Bm (k:κ):∀ L:List (κ×α),lL (mpg kf f L) t (kf k)=some ((lkg L k).map f)
 |[]=>rfl
 |e::L=>by
  show aD (cN t (kf k) (kf e.1)) (fun b=>cond b (some (some (f e.2))) (lL (mpg kf f L) t (kf k)))=_;rw[hk,aI,Bm k L,lkg];by_cases h:k=e.1
  ·simp[h]
  ·simp[h]
theorem Xb (k:κ)(v:α):∀ L:List (κ×α),rb (mpg kf f L) t (kf k) (f v)=mpg kf f (stg L k v)
 |[]=>rfl
 |e::L=>by
  show(Option.casesOn (cN t (kf k) (kf e.1)) ((kf e.1,f e.2)::rb (mpg kf f L) t (kf k) (f v)) fun b=>cond b ((kf k,f v)::mpg kf f L) ((kf e.1,f e.2)::rb (mpg kf f L) t (kf k) (f v)):List (AV×AV))=_;rw[hk,Xb k v L,stg];by_cases h:k=e.1
  ·simp[h,mpg]
  ·simp[h,mpg]
theorem kY {h:AH}{km:Nat}{L:List (κ×α)}(hm:h.get km=some (.map (mpg kf f L)))(k:κ)(z:AV)(ok:Bool):
  fm h t z ok (.map km) (kf k)=some (match lkg L k with|some o=>cond ok (.tup [f o,.bool true]) (f o)|none=>cond ok (.tup [z,.bool false]) z):=by
 show aD (cN t (kf k) (kf k)) (fun _=>aD (aD (aD (h.get km) aaV) fun es=>lL es t (kf k)) fun r=>some (OL r z ok))=_;rw[hk,hm];show aD (lL (mpg kf f L) t (kf k)) _=_;rw[Bm f hk];cases lkg L k<;>rfl
theorem lU {h:AH}{km:Nat}{L:List (κ×α)}(hm:h.get km=some (.map (mpg kf f L)))(k:κ)(v:α):
  fK h t (.map km) (kf k) (f v)=some (h.set km (.map (mpg kf f (stg L k v)))):=by
 show aD (aD (h.get km) aaV) (fun es=>aD (cN t (kf k) (kf k)) fun _=>aD (lL es t (kf k)) fun _=>some (h.set km (.map (rb es t (kf k) (f v)))))=_;rw[hm];show aD (cN t (kf k) (kf k)) (fun _=>aD (lL (mpg kf f L) t (kf k)) fun _=>some (h.set km (.map (rb (mpg kf f L) t (kf k) (f v)))))=_;rw[hk,Bm f hk,Xb f hk];rfl
end
def kfS (l:List UInt8):AV:=.str (bs l)
theorem uG {sz bytes:Nat}{agg:Bool}{h:AH}{k g:Nat}{x:AV}{out z:List AV}(hk:h.get k=some (.row g sz agg (flat out) 0))(ho:∀ y∈out,y.cells.length=sz)(hz:z.length=sz)(hx:x.cells.length=sz)(hl:x.lies=true)
  (hn:out.length<100000) (hy:bytes<=1000) :
  cU h sz agg z bytes (.row k g sz 0 out.length) (.clip [x])=some (.row k (g+1) sz 0 (out.length+1),h.set k (.row (g+1) sz agg (flat (out++[x])) 0)):=by
 have e0:cU h sz agg z bytes (.row k g sz 0 out.length) (.clip [x])=jw (.row k g sz 0 out.length) h sz agg bytes [x]:=by
  show aD (cond (and (Nat.beq (len x.cells) sz) true) (some [x]) none) (fun xs=>cond (and (fy xs) (Nat.beq (len z) sz)) _ _)=_;rw[bH,hx,eX];show cond (and (and x.lies true) (Nat.beq (len z) sz)) _ _=_;rw[hl,bH,hz,eX];rfl
 have hneed:need out.length 1 bytes=true:=by
  show and (Nat.ble ((2*(out.length+1)+1000)*bytes) 140737488355328) (Nat.ble (out.length+1) 9223372036854775807)=true;rw[fh (show out.length+1<=9223372036854775807 by omega),fh]
  ·rfl
  ·calc (2*(out.length+1)+1000)*bytes<=300000*1000:=Nat.mul_le_mul o_ hy
    _<=140737488355328:=by decide
 have hfl:=kZ ho;have er:AG.iS h k g sz=some (agg,flat out,0):=by
  unfold AG.iS;rw[hk,aI];show aD (some (g,sz,agg,flat out,0)) _=_;rw[aI];show cond (and (Nat.beq g g) (Nat.beq sz sz)) _ _=_;rw[eX,eX];rfl
 rw[e0];show cond (Nat.beq sz sz) (aD (AG.iS h k g sz) _) none=_;rw[eX,er,cond_true,aI];show cond (and (mq agg agg) (and (Nat.ble 0 ((0+out.length)*sz)) (and (Nat.ble ((0+out.length)*sz) (len (flat out))) (need out.length 1 bytes))))
  (some (AV.row k (g+1) sz 0 (out.length+1),h.set k (.row (g+1) sz agg (app (tke (out.length*sz) (drp (0*sz) (flat out))) (flat [x])) (0-0*sz)))) none=_
 have es:mq agg agg=true:=by cases agg<;>rfl
 rw[es,hneed,bH,fh (show 0<=(0+out.length)*sz by omega),fh (show(0+out.length)*sz<=(flat out).length by rw[hfl,z_];exact e_ _)];simp only[Nat.zero_mul,Nat.sub_self,gT,iB,fa,List.drop_zero];rw[<- hfl,List.take_length,fT];rfl
theorem ju {kk g n a sz:Nat}(ha:a<n)(H:AH)(k:IntKind):cz (.row kk g sz 0 n) H sz (.int k (a:Int))=.val (.ptr kk g (a*sz)) H:=by
 show okV (cond (Nat.beq sz sz) (aD (aD (some a) fun m=>cond (Nat.blt m n) (some m) none) fun n=>some (.ptr kk g (Nat.mul (Nat.add 0 n) sz))) none) H=_;have hb:Nat.blt a n=true:=Nat.ble_eq_true_of_le ha;rw[aI,hb,eX];show OpR.val (.ptr kk g (Nat.mul (Nat.add 0 a) sz)) H=_;congr 2;show(0+a)*sz=a*sz;rw[z_]
theorem nS {sz:Nat}: ∀ {out:List AV} {a:Nat} {x:AV},(∀ y∈out,y.cells.length=sz)->out[a]?=some x->((flat out).drop (a*sz)).take sz=x.cells
 |y::l,0,x,h,e=>by
  cases e;rw[cw,Nat.zero_mul,List.drop_zero];exact List.take_left' (h y (by simp))
 |y::l,a+1,x,h,e=>by
  have hy:=h y (by simp);rw[cw,Nat.succ_mul,Nat.add_comm,<- hy,<- List.drop_drop,List.drop_left' rfl,hy];exact nS (fun z hz=>h z (by simp[hz])) e
theorem SV {x:AV}(h:x.isAgg=true):AV.agg x.cells=x:=by cases x<;>simp[AV.isAgg,AV.cells]at h ⊢
theorem abQ {kk g a fz sz:Nat}{h:AH}{out:List AV}{x:AV}(hk:h.get kk=some (.row g sz true (flat out) fz))(ho:∀ x∈out,x.cells.length=sz)(hx:x.isAgg=true)(ha:out[a]?=some x):cj (.ptr kk g (a*sz)) h true sz=some x:=by
 have hl:a<out.length:=(E_.1 ha).1;rw[eV,hk,aI];show cond (Nat.beq g g) (rj true sz (a*sz) (flat out)) none=_;have hfl:=kZ ho;have:a*sz+sz<=out.length*sz:=by
  calc a*sz+sz=(a+1)*sz:=by rw[Nat.succ_mul]
   _<=_:=Nat.mul_le_mul hl (e_ _)
 rw[eX,cond_true,lK _ _ _ (by rw[hfl];omega),nS ho ha,SV hx]
theorem oK {kk g a fz:Nat}{h:AH}{out:List AV}{x:AV}(hk:h.get kk=some (.row g 1 false out fz))(ha:out[a]?=some x):cj (.ptr kk g (a*1)) h false 1=some x:=by
 rw[eV,hk,aI];show cond (Nat.beq g g) (rj false 1 (a*1) out) none=_;rw[eX,cond_true,Nat.mul_one,BE,ha]
theorem UE {kk g a fz sz i:Nat}{h:AH}{out:List AV}{x y:AV}(hk:h.get kk=some (.row g sz true (flat out) fz))(ho:∀ x∈out,x.cells.length=sz)(ha:out[a]?=some x)(hi:x.cells[i]?=some y):cj (.ptr kk g (a*sz+i)) h false 1=some y:=by
 rw[eV,hk,aI];show cond (Nat.beq g g) (rj false 1 (a*sz+i) (flat out)) none=_;rw[eX,cond_true,BE];have h1:=nS ho ha;have hlt:i<sz:=by have:=(E_.1 hi).1;rw[ho x (m_ ha)]at this;exact this
 rw[<- hi,<- h1,List.getElem?_take,P_ hlt,List.getElem?_drop]
def ahw (e:AEx):Md:=match e with
 |.panic v=>.panicking v
 |_=>.returning
def XQm (rs:List bK)(P:dH->RC->AH->Prop)(tm:Tm)(rc:RC)(h2:AH)(m:Md):Prop:=match m with
 |.returning=>∃ vs,hO rs tm h2=some vs/\P (.ret (one vs)) rc h2
 |.panicking v=>P (.pan v) rc h2
def XQ (call:aQ)(rs:List bK)(P:dH->RC->AH->Prop)(e:AEx)(fr:AF)(h1:AH):Prop:=
 (∀ id,e≠.exit id)/\∃ m h2,kJ fr.cx.dfs call (ahw e) h1=some (m,h2)/\XQm rs P fr.tm fr.cx.rc h2 m
theorem aiE {E:Env}{call:aQ}{n:Nat}{f:FuncId}{az:List AV}{rc:RC}{h0:AH}{P:dH->RC->AH->Prop}{nt:Nat}{rs:List bK}{body:aF}(hcf:E.cf f=some ⟨nt,rs,body⟩)(hp:E.pure f=false)
  (hR:R call n [.code body] (XQ call rs P) .normal ⟨cT az,⟨[],rc,none,f⟩⟩ h0):∃ o rc' h',lE E call n f az rc h0=some (o,rc',h')/\P o rc' h':=by
 obtain⟨e,⟨tm,⟨dfs,rc1,rnd,fid⟩⟩,h,q,hne,m,h2,q4,hm⟩:=hR;replace q4:kJ dfs call (ahw e) h=some (m,h2):=q4;replace hm:XQm rs P tm rc1 h2 m:=hm;have q':evCode body call n ⟨cT az,⟨[],rc,none,f⟩⟩ (lowered (E.pure f) h0)=some (e,⟨tm,⟨dfs,rc1,rnd,fid⟩⟩,h):=by rw[hp];exact q
 have key:∃ o h',xg call (E.pure f) h0 ⟨nt,rs,body⟩ ⟨tm,⟨dfs,rc1,rnd,fid⟩⟩ (ahw e) h=some (o,rc1,h')/\P o rc1 h':=by
  show ∃ o h',aD (kJ dfs call (ahw e) h) (fun p=>aft p.1 (E.pure f) h0 ⟨nt,rs,body⟩ ⟨tm,⟨dfs,rc1,rnd,fid⟩⟩ p.2)=some (o,rc1,h')/\P o rc1 h'
  rw[q4,aI,hp];cases m with
  |returning=>
   obtain⟨vs,r1,r2⟩:=hm;refine⟨_,_,?_,r2⟩;show aD (hO rs tm h2) (fun vs=>Im false h0 h2 rc1 vs)=_;rw[r1,aI];rfl
  |panicking v=>exact⟨_,_,rfl,hm⟩
 obtain⟨o,h',k1,k2⟩:=key;refine⟨o,rc1,h',?_,k2⟩;unfold lE;rw[hcf,aI];simp only[q',aI];cases e with
 |normal=>exact k1
 |ret=>exact k1
 |panic v=>exact k1
 |exit id=>exact absurd rfl (hne id)
def ru (P:dH->RC->AH->Prop)(o:dH)(rc:RC)(h:AH):Prop:=match o with
 |.ret v=>∃ v' h',cG v h=(v',h')/\P (.ret v') rc h'
 |.pan v=>P (.pan v) rc h
def Rn (cl:Nat->aQ)(f:Nat):Prop:=∀ (m:Nat) (c a a':List AV) (rc:RC) (h h1:AH) (nt:Nat) (rs:List bK) (body:aF) (P:dH->RC->AH->Prop),
 EG.cf f=some ⟨nt,rs,body⟩->iw a h=(a',h1)->R (cl m) 1000000000000 [.code body] (XQ (cl m) rs (ru P)) .normal ⟨cT (a'++c),⟨[],rc,none,f⟩⟩ h1->∃ o rc' h',cl (m+1) (.fn f [] c) a rc h=some (o,rc',h')/\P o rc' h'
theorem acr {K:aQ}{ni no dp:List Nat}{f:Nat}(hk:∀ c a rc h,K (.fn f [] c) a rc h=none)(hn:ni.contains f=false)(ho:no.contains f=false)(hd:dp.contains f=false):Rn (mJ K EG 1000000000000 ni no dp) f:=by
 intro m c a a' rc h h1 nt rs body P hcf e0 hR;obtain⟨o,rc',h',e,hP⟩:=aiE (hcf) (Ck f) hR;have st:mJ K EG 1000000000000 ni no dp (m+1) (.fn f [] c) a rc h=cond (no.contains f) (lE EG (mJ K EG 1000000000000 ni no dp m) 1000000000000 f (a'++c) rc h1) (uo (lE EG (mJ K EG 1000000000000 ni no dp m) 1000000000000 f (a'++c) rc h1)):=
  EA e0 (show fidIn ni (.fn f [] c)=false from hn) (show fidIn dp (.fn f [] c)=false from hd) (hk c a' rc h1)
 rw[st,ho,cond_false,e];cases o with
 |ret v=>
  obtain⟨v',h2,e2,hP⟩:=hP;exact⟨_,_,_,oL e2,hP⟩
 |pan v=>exact⟨_,_,_,US,hP⟩
theorem mw {K:aQ}(hK:aZ K){f:Nat}(hf:f∈xW:=by decide)(hn:niM.contains f=false:=by decide)(ho:noM.contains f=false:=by decide)(hd:dpM.contains f=false:=by decide):Rn (cS K) f:=
 acr (hK.fn f hf) hn ho hd
theorem jE {call:aQ}{rs:List bK}{P:dH->RC->AH->Prop}{tm:Tm}{rc:RC}{rnd:Option Nat}{f:FuncId}{h1:AH}{vs:List AV}{e:AEx}(he:e=.normal∨e=.ret)(hv:hO rs tm h1=some vs)(hP:P (.ret (one vs)) rc h1):XQ call rs P e ⟨tm,⟨[],rc,rnd,f⟩⟩ h1:=by
 refine⟨?_,.returning,h1,?_,vs,hv,hP⟩
 ·rcases he with rfl|rfl<;>intro id e<;>cases e
 ·rcases he with rfl|rfl<;>rfl
theorem lP {call:aQ}{rs:List bK}{P:dH->RC->AH->Prop}{tm:Tm}{rc:RC}{rnd:Option Nat}{f:FuncId}{h1:AH}{v:AV}(hP:P (.pan v) rc h1):XQ call rs P (.panic v) ⟨tm,⟨[],rc,rnd,f⟩⟩ h1:=
 ⟨fun id e=>(by cases e),.panicking v,h1,rfl,hP⟩
theorem ZI {call:aQ}{rs:List bK}{P:dH->RC->AH->Prop}{tm:Tm}{rc:RC}{rnd:Option Nat}{f:FuncId}{h1 h2:AH}{v fv u:AV}{vs:List AV}(hd:call fv [] (.pend v) h1=some (.ret u,.done,h2))(hv:hO rs tm h2=some vs)(hP:P (.ret (one vs)) rc h2):XQ call rs P (.panic v) ⟨tm,⟨[.call fv []],rc,rnd,f⟩⟩ h1:=by
 refine⟨fun id e=>(by cases e),.returning,h2,?_,vs,hv,hP⟩;show aD (aD (call fv [] (.pend v) h1) fun q=>Ip q.1 q.2.1 (.panicking v) q.2.2) (fun p=>some (p.1,p.2))=_;rw[hd];rfl
theorem ZJ {call:aQ}{rs:List bK}{P:dH->RC->AH->Prop}{tm:Tm}{rc:RC}{rnd:Option Nat}{f:FuncId}{h1 h2:AH}{fv u:AV}{vs:List AV}{e:AEx}(he:e=.normal∨e=.ret)(hd:call fv [] .ret h1=some (.ret u,.ret,h2))(hv:hO rs tm h2=some vs)(hP:P (.ret (one vs)) rc h2):XQ call rs P e ⟨tm,⟨[.call fv []],rc,rnd,f⟩⟩ h1:=by
 refine⟨?_,.returning,h2,?_,vs,hv,hP⟩
 ·rcases he with rfl|rfl<;>intro id e<;>cases e
 ·have:kJ [.call fv []] call .returning h1=some (.returning,h2):=by
   show aD (aD (call fv [] .ret h1) fun q=>Ip q.1 q.2.1 .returning q.2.2) (fun p=>some (p.1,p.2))=_;rw[hd];rfl
  rcases he with rfl|rfl<;>exact this
theorem Rs (t:TypeId)(v:AV):jv (.ifc t v)=.pan (.ifc t v):=(rfl)
theorem UK (d:Option Nat)(tm:Tm)(dfs:List DF)(v:AV)(fid:FuncId)(h:AH):Hn d ⟨tm,⟨dfs,.pend v,none,fid⟩⟩ h=some (.normal,⟨ez d tm v,⟨dfs,.done,none,fid⟩⟩,h):=(rfl)
theorem abZ (d:Option Nat)(tm:Tm)(dfs:List DF)(fid:FuncId)(h:AH):Hn d ⟨tm,⟨dfs,.ret,none,fid⟩⟩ h=some (.normal,⟨ez d tm .nili,⟨dfs,.ret,none,fid⟩⟩,h):=(rfl)
theorem acp (t:TypeId)(v:AV):qJ (.ifc t v) .neq (.iface true) .nili=some (.bool true):=(rfl)
theorem Vk:qJ .nili .neq (.iface true) .nili=some (.bool false):=(rfl)
theorem SS (e:Int):lh (.ifc 33 (i_ e)) 33 (i_ 0) true=some (.tup [i_ e,.bool true]):=(rfl)
attribute [go_sem] Rs UK abZ acp Vk SS Cs ahW RA Cv FY aiO dP_t dP_f akw adt abj Ud Ue ahJ ahI aiR Wo Su Sw
theorem GG (e:Int)(h:AH):cE (.ifc 33 (i_ e)) h=(.ifc 33 (i_ e),h):=bG (by simp[AV.free]) h
structure NV where
 kind:Int
 idx:Int
 name:ByteArray
 L:List LL
 K:List Int
def aT (n:NV):AV:=.agg [i_ n.kind,i_ n.idx,.str n.name,.ls (n.L.map ba),.ls (n.K.map AG.aO)]
theorem lj (n:NV):(aT n).cells.length=5:=rfl
theorem wN (l:List NV):∀ x∈l.map aT,x.cells.length=5:=by
 intro x hx;obtain⟨n,_,rfl⟩:=List.mem_map.1 hx;rfl
theorem mI (l:List Int):∀ x∈l.map AG.aO,x.cells.length=1:=by
 intro x hx;obtain⟨n,_,rfl⟩:=List.mem_map.1 hx;rfl
def qH (l:LL):List UInt8:=91::(Lib.itoa l.c++32::l.vars.flatMap fun v=>Lib.itoa v.idx++32::(Lib.itoa v.plus++[32]))
def cQ (n:NV):List UInt8:=Lib.itoa n.kind++32::(Lib.itoa n.idx++32::(n.name.data.toList++(n.L.flatMap qH++124::n.K.flatMap fun k=>Lib.itoa k++[32])))
structure Ms where
 ns:List NV
 ts:List T
 fr:List Int
 w:List (Int×Int)
 n:List (Int×Int)
 con:Int
 vis:Int
structure Ma where
 a:Nat
 kI:Nat
 kN:Nat
 kF:Nat
 kW:Nat
 kM:Nat
 kU:Nat
 kS:Nat
structure Ma.Ok (A:Ma)(B B1:Nat):Prop where
 nd:[A.a,A.kI,A.kN,A.kF,A.kW,A.kM].Nodup
 rg:∀ k∈[A.a,A.kI,A.kN,A.kF,A.kW,A.kM],B<=k/\k<B1
def idx (l:List NV):List (List UInt8×Int):=l.zipIdx.map fun p=>(cQ p.1,(p.2:Int))
def mL (A:Ma)(E:AV)(M:Ms)(gN gF:Nat):fD:=.box [.row A.kN gN 5 0 M.ns.length,E,.map A.kI,.row A.kF gF 1 0 M.fr.length,.map A.kW,.map A.kM,.map A.kU,.map A.kS,i_ M.con,i_ M.vis]
structure St (A:Ma)(B B1:Nat)(E:AV)(M:Ms)(gN gF:Nat)(h:AH):Prop where
 ok:A.Ok B B1
 gA:h.get A.a=some (mL A E M gN gF)
 gI:h.get A.kI=some (.map (mpg kfS AG.aO (idx M.ns)))
 gN:h.get A.kN=some (.row gN 5 true (flat (M.ns.map aT)) 0)
 gF:h.get A.kF=some (.row gF 1 false (flat (M.fr.map AG.aO)) 0)
 gW:h.get A.kW=some (.map (mpg AG.aO AG.aO M.w))
 gM:h.get A.kM=some (.map (mpg AG.aO AG.aO M.n))
 b1:B1<=h.z
structure HM (B B1:Nat)(h h':AH):Prop where
 z:h.z<=h'.z
 kw:∀ k,k<h.z->k<B∨B1<=k->h'.get k=h.get k
section
variable {B B1:Nat}{h h' h'':AH}
theorem HM.refl (h:AH):HM B B1 h h:=⟨e_ _,fun _ _ _=>rfl⟩
theorem HM.trans (x:HM B B1 h h')(y:HM B B1 h' h''):HM B B1 h h'':=⟨Nat.le_trans x.z y.z,fun k hk q=>(y.kw k (Nat.lt_of_lt_of_le hk x.z) q).trans (x.kw k hk q)⟩
theorem HK.m (x:HK h h'):HM B B1 h h':=⟨x.z,fun k hk _=>x.kw k hk⟩
theorem HM.set (x:HM B B1 h h'){k:Nat}(o:fD)(hk:h.z<=k∨B<=k/\k<B1):HM B B1 h (h'.set k o):=
 ⟨by rw[alb];exact x.z,fun j hj q=>by rw[aB o_];exact x.kw j hj q⟩
theorem HM.new (x:HM B B1 h h')(o:fD):HM B B1 h (h'.new o):=x.trans (HK.new _ _).m
end
section
variable {A:Ma}{B B1:Nat}{E:AV}{M:Ms}{gN gF:Nat}{h h':AH}
theorem Ma.Ok.rng (ok:A.Ok B B1):(B<=A.a/\A.a<B1)/\(B<=A.kI/\A.kI<B1)/\(B<=A.kN/\A.kN<B1)/\(B<=A.kF/\A.kF<B1)/\(B<=A.kW/\A.kW<B1)/\(B<=A.kM/\A.kM<B1):=
 ⟨ok.rg _ (by simp),ok.rg _ (by simp),ok.rg _ (by simp),ok.rg _ (by simp),ok.rg _ (by simp),ok.rg _ (by simp)⟩
theorem Ma.Ok.ne (ok:A.Ok B B1):A.a≠A.kI/\A.a≠A.kN/\A.a≠A.kF/\A.a≠A.kW/\A.a≠A.kM/\A.kI≠A.kN/\A.kI≠A.kF/\A.kI≠A.kW/\A.kI≠A.kM/\A.kN≠A.kF/\A.kN≠A.kW/\A.kN≠A.kM/\A.kF≠A.kW/\A.kF≠A.kM/\A.kW≠A.kM:=by
 have:=ok.nd;simp only[List.nodup_cons,List.mem_cons,List.not_mem_nil,or_false,not_or,List.nodup_nil,and_true,not_false_eq_true]at this;omega
theorem St.up (s:St A B B1 E M gN gF h)(hn:h.z<=h'.z)(e:∀ k,B<=k->k<B1->h'.get k=h.get k):St A B B1 E M gN gF h':=by
 obtain⟨r1,r2,r3,r4,r5,r6⟩:=s.ok.rng;exact⟨s.ok,(e _ r1.1 r1.2).trans s.gA,(e _ r2.1 r2.2).trans s.gI,(e _ r3.1 r3.2).trans s.gN,(e _ r4.1 r4.2).trans s.gF,(e _ r5.1 r5.2).trans s.gW,(e _ r6.1 r6.2).trans s.gM,Nat.le_trans s.b1 hn⟩
theorem St.hk (s:St A B B1 E M gN gF h)(x:HK h h'):St A B B1 E M gN gF h':=s.up x.z fun k _ h2=>x.kw k (by have:=s.b1;omega)
theorem St.new (s:St A B B1 E M gN gF h)(o:fD):St A B B1 E M gN gF (h.new o):=s.hk (HK.new _ _)
theorem St.set (s:St A B B1 E M gN gF h){k:Nat}(o:fD)(hk:B1<=k):St A B B1 E M gN gF (h.set k o):=s.up (by rw[alb];exact e_ _) fun j _ hj=>by rw[aB o_]
theorem St.count (s:St A B B1 E M gN gF h)(c v:Int):St A B B1 E {M with con:=c,vis:=v} gN gF (h.set A.a (mL A E {M with con:=c,vis:=v} gN gF)):=by
 obtain⟨n1,n2,n3,n4,n5,_⟩:=s.ok.ne;exact⟨s.ok,aH _ _ _,by rw[aB n1.symm];exact s.gI,by rw[aB n2.symm];exact s.gN,by rw[aB n3.symm];exact s.gF,by rw[aB n4.symm];exact s.gW,by rw[aB n5.symm];exact s.gM,by rw[alb];exact s.b1⟩
end
def pv:AV:=.ifc 33 (i_ 11)
theorem TQ {K:aQ}(hK:aZ K)(m:Nat)(h:AH):cS K (m+1) (.fn 98 [] []) [] .no h=some (.pan pv,.no,h):=by
 obtain⟨o,rc,h',e1,rfl,rfl,rfl⟩:=(mw hK) m [] _ _ .no h _ _ _ _ (fun o rc h'=>o=.pan pv/\rc=.no/\h'=h) aju (aC _) (by
  unfold agF;simp only[go_sem,simprocAttr];exact lP ⟨rfl,rfl,rfl⟩)
 exact e1
section
variable {K:aQ}{A:Ma}{B B1:Nat}{E:AV}{M:Ms}{gN gF:Nat}{h:AH}
def Cm (K:aQ)(m B B1:Nat)(f:Nat)(c a:List AV)(h:AH)(Q:AV->AH->Prop):Prop:=
 ∃ o h',cS K m (.fn f [] c) a .no h=some (o,.no,h')/\HM B B1 h h'/\((∃ v,o=.ret v/\Q v h')∨o=.pan pv)
def PM (B B1:Nat)(h:AH)(Q:AV->AH->Prop)(o:dH)(rc:RC)(h':AH):Prop:=rc=.no/\HM B B1 h h'/\((∃ v,o=.ret v/\Q v h')∨o=.pan pv)
theorem fG (hK:aZ K){m f nt:Nat}{rs:List bK}{body:aF}{c a a':List AV}{Q:AV->AH->Prop}(hcf:EG.cf f=some ⟨nt,rs,body⟩)(e0:iw a h=(a',h))
  (hR:R (cS K m) 1000000000000 [.code body] (XQ (cS K m) rs (ru (PM B B1 h Q))) .normal ⟨cT (a'++c),⟨[],.no,none,f⟩⟩ h)
  (hf:f∈xW:=by decide) (hn:niM.contains f=false:=by decide) (ho:noM.contains f=false:=by decide) (hd:dpM.contains f=false:=by decide):Cm K (m+1) B B1 f c a h Q:=by
 obtain⟨o,rc,h',e1,rfl,e2,e3⟩:=(mw hK hf hn ho hd) m c a a' .no h h _ _ _ (PM B B1 h Q) hcf e0 hR;exact⟨o,h',e1,e2,e3⟩
theorem mW {call:aQ}{rs:List bK}{tm:Tm}{rnd:Option Nat}{f:FuncId}{h1 h2:AH}{vs:List AV}{e:AEx}{v':AV}{Q:AV->AH->Prop}(he:e=.normal∨e=.ret)(hv:hO rs tm h1=some vs)(hc:cG (one vs) h1=(v',h2))(hm:HM B B1 h h2)(hQ:Q v' h2):
  XQ call rs (ru (PM B B1 h Q)) e ⟨tm,⟨[],.no,rnd,f⟩⟩ h1:=jE he hv ⟨v',h2,hc,rfl,hm,.inl ⟨v',rfl,hQ⟩⟩
theorem cB {call:aQ}{rs:List bK}{tm:Tm}{rnd:Option Nat}{f:FuncId}{h1:AH}{Q:AV->AH->Prop}(hm:HM B B1 h h1):
  XQ call rs (ru (PM B B1 h Q)) (.panic pv) ⟨tm,⟨[],.no,rnd,f⟩⟩ h1:=lP ⟨rfl,hm,.inr rfl⟩
theorem c1061 (hK:aZ K)(m:Nat)(s:St A B B1 E M gN gF h)(h0:0<=M.vis)(h1:M.vis<=4000000):
  Cm K (m+2) B B1 (61) [] [.ptr A.a 0 0] h fun v h'=>v=.tup []/\M.vis<4000000/\St A B B1 E {M with vis:=M.vis+1} gN gF h':=by
 refine fG hK ajM (ae (bD _ _ _ _) (aC _)) ?_;have g:=s.gA;have r:=s.ok.rng.1;have hw:IntKind.wrap .i64 (M.vis+1)=M.vis+1:=bI _ o_ o_;have cg:=TQ hK m;unfold mL at g;unfold agX;simp only[go_sem,simprocAttr,g,hw,Mz];refine aX (fun hb=>?_) (fun hb=>?_)
 ·simp only[go_sem,simprocAttr,cg];exact cB ((HM.refl h).set _ (.inr r))
 ·simp only[go_sem,simprocAttr];exact mW (.inl rfl) rfl (bz (aC _)) ((HM.refl h).set _ (.inr r)) ⟨rfl,o_,s.count M.con (M.vis+1)⟩
theorem c1065 (hK:aZ K)(m:Nat)(s:St A B B1 E M gN gF h)(h0:0<=M.con)(h1:M.con<=20000):
  Cm K (m+2) B B1 (65) [] [.ptr A.a 0 0] h fun v h'=>v=.tup []/\M.con<20000/\St A B B1 E {M with con:=M.con+1} gN gF h':=by
 refine fG hK ajI (ae (bD _ _ _ _) (aC _)) ?_;have g:=s.gA;have r:=s.ok.rng.1;have hw:IntKind.wrap .i64 (M.con+1)=M.con+1:=bI _ o_ o_;have cg:=TQ hK m;unfold mL at g;unfold agT;simp only[go_sem,simprocAttr,g,hw,Mt];refine aX (fun hb=>?_) (fun hb=>?_)
 ·simp only[go_sem,simprocAttr,cg];exact cB ((HM.refl h).set _ (.inr r))
 ·simp only[go_sem,simprocAttr];exact mW (.inl rfl) rfl (bz (aC _)) ((HM.refl h).set _ (.inr r)) ⟨rfl,o_,s.count (M.con+1) M.vis⟩
end
