/- Lemmas for MachineOrders (no condition). -/
import Derived.Test.YtocdlbblemjabaaGreatDoorAw
import Derived.Lib.LaidTab
import Derived.Lib.ItoaNum
set_option linter.defProp false
namespace Go.Proofs.YtocdlbblemjabaaGreatDoor
open Go.AG Go.AG.MK
def k_{p:Prop}(h:p:=by simp only[go_sem]):p:=h
def q_{p q:Prop}(h:q)(k:q->p:=by intro h;simp only[go_sem,h]):p:=k h
attribute [go_sem] ags agv dE_eq TI Pn TJ Pq Zm TK aed aec aeg Zn aee Xm Xl TX TY PN Ot IC Sh Ou Fb List.append_eq List.nil_append A_ List.cons_append Bool.true_or Bool.or_true Bool.false_or Bool.or_false Bool.true_and Bool.and_true Bool.false_and Bool.and_false Bool.not_not R_nil agq R_seq Uc agr R_ret ZN agt XL Sc FV Jy DA Dz Qc FQ Jw FU Qd R_op R_opg XK Sb adf XJ adh adj adk Qe ZS agw Ue adi XI ad9 TL YC Pz SW Sl RT ac5 jQ Oy IE IJ okV_s okH_s adE ev_t ev_c adp adq SL OM Zi HJ adt ZJ ZI YX YQ YW YR YS YT YU YV Xv Xu YE SZ YF zH Xn Xo ac3 aK aD aM aF aA BU jG oU GR Pa fE fh EJ lv ab6 jF qW CO PB Jn Pw PA Jm Py Ho SY OR SU SX OQ SV mQ jP jv oW mF max2 cond_true cond_false decide_true decide_false Bool.not_true Bool.not_false List.getElem?_cons_zero List.getElem?_cons_succ List.length_cons List.length_nil L_ List.map_cons List.map_nil List.drop_zero List.take_succ_cons List.take_zero List.drop_succ_cons z_ Nat.add_zero Option.some.injEq exists_eq_left' exists_eq_left ep.ret.injEq ep.pan.injEq AV.int.injEq AV.bool.injEq ne_eq not_true_eq_false not_false_eq_true true_and and_true e_ eq_self Nat.reduceEqDiff Nat.reduceAdd Nat.reduceMul Nat.reduceSub Nat.reduceLeDiff Nat.reduceLT reduceCtorEq Int.reduceLT Int.reduceLE Int.reduceEq Int.reduceNeg ZP Zl cls_r ZH op_r OL agn YP my Ze IN IP lit_0 lit_1 lit_2 lit_3 ZG adT UT YZ adr Jc adJ Zp OP rT bH fj gG gQ List.getElem?_map Option.map_some Option.getD_some reduceIte
attribute [go_sem] QL r29 abq r24 Wx Ww Wv abp r11 Fq JK abm abj abi r6 r7 QK Wt r111 QJ Ws abh r47 abe abd abc abb aba aa9 aa8 aa7 Wp aa6 aa5 aa4 aa2 aa0 Wm r25 r26 r27 r28 Fm Wl r160 Wj aaZ Wi QI r58 r193 aaY QH aaX aaW We aaV aaU aaT QG aaS Wd Wc agH r109 r68 r69 r70 r71 r72 QC Wb JF Fk Wa QB Fj QA aaN Qz aaM Ra r316 aaL agF Qy aaK Qx aaJ r192 acG r21 r116 r117 aaF VY VX VW VV Qt aaE r282 r113 r327 r328 acE JE VU aaD r238 VR Qs VQ agG r161 r84 r162 r87 r88 r90 r163 r329 r164 r166 r165 r167 r128 r208 r210 r199 acF
def Kg {P:Program}{w d:World}(a:String)(x:Array Value)(h:w.var? P a=some x)(f:∀b,b<w.heap.size->d.heap[b]?=w.heap[b]?):d.var? P a=some x:=by
 unfold World.var? at h ⊢;cases c:P.globalNamed a with
 |none=>rw[c]at h;cases h
 |some g=>
  rw[c]at h;simp only[Option.bind_some]at h ⊢;cases e:w.heap[g]? with
  |none=>rw[e]at h;cases h
  |some o=>rw[f g (Array.getElem?_eq_some_iff.1 e).1,e];rw[e]at h;exact h
def Uj:AG.Ini where
 p w:=Lib.TabIs Tryz.prog w "internal/strconv.uint64pow10" .u64 Lib.pow10Tab
 up _w _w' hh _ h:=Kg _ _ h hh
def hmix:Tryz.prog.follows .mixedOrders=true:=r_
def adP:MC Tryz.prog=true:=r_
noncomputable def CI:AG.Cx:=cxOf Tryz.prog hmix Uj
def hEG:AZ CI EG:=ad7 Tryz.prog hmix adP Uj
def niM:List Nat:=[97,107]
def noM:List Nat:=[107,147,203,68]
def ud:List Nat:=[213,96,139,98,35,73,31,60,97,61,65,62,100,99,140,101,141,102,63,67,66,64,103,104,144,105,146,106,148,147,59,29,34,57,58,56,95,15,94,137,142,178,199,145,182,7,8,13,19,22,23,24,25,26,28,40,41,44,45,46,47,48,49,50,51,55,78,79,82,83,84,85,86,87,88,89,90,91,92,93,120,121,124,125,126,127,128,129,130,131,132,133,134,135,136,143,161,162,163,164,165,166,167,168,169,170,171,172,179,180,181,251,185,189,190,193,194,195,196,200,201,202,203,204,205,206,207,208,209,210,211,219,220,222,223,150,5,11,17,18,27,32,33,36,37,38,39,52,53,54,68,69,70,71,72,74,75,76,77,108,109,110,111,112,113,114,115,116,117,118,119,149,151,152,153,154,155,156,157,158,159,160,183,184,186,187,188,191,192,212,214,215,216,224,225,226,227,6,20,21,42,43,80,81,122,123]
class RunsM (K:outParam aN):Prop where
 fn:∀f,f∈ud->∀c a rc h,K (.fn f [] c) a rc h=none
 bnd:∀f,f∈ud->∀b c a rc h,K (.fn f b c) a rc h=none
 yld:∀l a rc h,K (.yld l) a rc h=none
def dpM:List Nat:=[92]
noncomputable def cS (K:aN):aN:=Iq K EG 1000000000000 niM noM dpM
def cS_ok {K:aN}(hk:dD CI K):dD CI (cS K):=Zw hEG hk
noncomputable abbrev R_ (K:aN):=R (cS K) 1000000000000
abbrev h_ (t:T):List AV:=[.I t.D,.I t.X,.str t.N,.eL t.L,.eT t.K]
structure HK (h h':AH):Prop where
 z:h.z<=h'.z
 kw:∀k,k<h.z->h'.get k=h.get k
theorem HK.refl (h:AH):HK h h:=⟨e_ _,λ_ _=>rfl⟩
theorem HK.trans {a b c:AH}(x:HK a b)(y:HK b c):HK a c:=⟨C_ x.z y.z,λk hk=>(y.kw k (B_ hk x.z)).trans (x.kw k hk)⟩
theorem HK.new (h:AH)(o:dF):HK h (h.new o):=⟨by rw[aB];omega,λk hk=>aM o_⟩
def HK.set {a h:AH}(x:HK a h){j:Nat}(o:dF)(b:a.z<=j):HK a (h.set j o):=⟨by rw[aE];exact x.z,λk hk=>by rw[aA o_];exact x.kw k hk⟩
theorem HK.add {a h:AH}(x:HK a h)(o:dF):HK a (h.new o):=x.trans (HK.new h o)
theorem HK.gu {h a:AH}(x:HK h a){k:Nat}{o:dF}(g:h.get k=some o)(hk:k<h.z):a.get k=some o:=(x.kw k hk).trans g
attribute [grind ->] HK.z HK.trans
attribute [grind =>] HK.gu
attribute [grind .] HK.refl
def HK.up {h a:AH}(x:HK h a){k:Nat}{o:Option dF}(g:h.get k=o)(hk:k<h.z:=by first|omega|grind):a.get k=o:=(x.kw k hk).trans g
def nw (h:AH)(o:dF):∃H,H=h.new o/\HK h H/\H.z=h.z+1/\H.get h.z=some o:=⟨_,rfl,HK.new _ _,aB _ _,aD _ _⟩
theorem ns (h:AH)(a o:dF):∃H,H=(h.new a).set h.z o/\HK h H/\H.z=h.z+1/\H.get h.z=some o:=⟨_,rfl,(HK.new _ _).set _ (e_ _),by rw[aE,aB],aF _ _ _⟩
theorem n2 (h:AH)(a b:dF):∃H,H=(h.new a).new b/\HK h H/\H.z=h.z+2/\H.get h.z=some a/\H.get (h.z+1)=some b:=⟨_,rfl,(HK.new _ _).add _,by simp only[aB],by rw[aM (by simp only[aB];omega),aD],by rw[<-aB h a,aD]⟩
class Can (v:AV) (w:outParam AV):Prop where
 c:∀h,cw v h=(w,h)
class CanL (l:List AV) (m:outParam (List AV)):Prop where
 c:∀h,jB l h=(m,h)
instance:CanL [] []:=⟨aH⟩
instance {v w:AV} {l m:List AV} [a:Can v w] [b:CanL l m]:CanL (v::l) (w::m):=⟨λh=>ae (a.c h) (b.c h)⟩
instance (k:IntKind) (n:Int):Can (.int k n) (.int k n):=⟨aL k n⟩
instance (b:Bool):Can (.bool b) (.bool b):=⟨bp b⟩
instance (b:ByteArray):Can (.str b) (.str b):=⟨rX b⟩
instance (k g o:Nat):Can (.ptr k g o) (.ptr k g o):=⟨bS k g o⟩
instance (k:Nat):Can (.yld k) (.yld k):=⟨TR k⟩
section
variable {K:aN}{f nt:Nat}{rs:List bG}{body:bu}{c a a':List AV}{h h1:AH}{P:AV->AH->Prop}
def Rt (K:aN)(f:Nat)(a:List AV)(h:AH)(P:AV->AH->Prop):Prop:=∃v b,cS K (.fn f [] []) a .no h=some (.ret v,.no,b)/\P v b
def Ret (K:aN)(f:Nat)(a:List AV)(h:AH)(P:AV->AH->Prop):Prop:=Rt K f a h λv b=>P v b/\HK h b
def Fin (rs:List bG)(P:AV->AH->Prop):AEx->AF->AH->Prop:=IQ rs λv c=>∃a b,mT v c=(a,b)/\P a b
def nS {f:AV}{b:RC}{r:ep×RC×AH}(e:nxt K EG 1000000000000 niM noM dpM (cS K) f a b h=some r):cS K f a b h=some r:=SK e
def EH [i:RunsM K]{b:RC}{r:ep×RC×AH}(e0:jB a h=(a',h1))(d:f∈ud)(j:niM.contains f=false)(g:dpM.contains f=false)(e:cond (noM.contains f) (qw EG (cS K) 1000000000000 f (a'++c) b h1) (Be (qw EG (cS K) 1000000000000 f (a'++c) b h1))=some r):cS K (.fn f [] c) a b h=some r:=
 nS ((Yr (A:=cS K) e0 (show eH niM (.fn f [] c)=false from j) (show eH dpM (.fn f [] c)=false from g) (i.fn f d c a' b h1)).trans e)
def adH [g:RunsM K]{r:ep×RC×AH}(b:f∈ud)(i:niM.contains f=true)(d:dpM.contains f=false)(e:cond (noM.contains f) (qw EG (cS K) 1000000000000 f (a++c) .no h) (Be (qw EG (cS K) 1000000000000 f (a++c) .no h))=some r):cS K (.fn f [] c) a .no h=some r:=
 nS ((Ys (A:=cS K) (show eH niM (.fn f [] c)=true from i) (show eH dpM (.fn f [] c)=false from d) (g.fn f b c a .no h)).trans e)
def kK [q:RunsM K](g:EG f=some ⟨nt,rs,body⟩)(e0:jB a h=(a',h1))
  (n:R_ K [.code body] (IQ rs λv i=>∃b d,mT v i=(b,d)/\P b d) .normal ⟨cU (a'++c),⟨[],.no,none,f⟩⟩ h1)
  (p:f∈ud:=by decide) (o:niM.contains f=false:=by decide) (ho:noM.contains f=false:=by decide) (k:dpM.contains f=false:=by decide):∃v j,cS K (.fn f [] c) a .no h=some (.ret v,.no,j)/\P v j:=by
 have⟨_,_,e,b,d,m,l⟩:=By g n;exact⟨b,d,EH e0 p o k (by rw[ho,cond_false,e,rR m]),l⟩
def TT [n:RunsM K](g:EG f=some ⟨nt,rs,body⟩)(e0:jB a h=(a',h1))
  (o:R_ K [.code body] (IQ rs λv i=>∃b d,mT v (AT v i)=(b,d)/\P b d) .normal ⟨cU (a'++c),⟨[],.no,none,f⟩⟩ h1)
  (q:f∈ud:=by decide) (p:niM.contains f=false:=by decide) (ho:noM.contains f=false:=by decide) (k:dpM.contains f=true:=by decide):∃v j,cS K (.fn f [] c) a .no h=some (.ret v,.no,j)/\P v j:=by
 have⟨_,_,e,b,d,m,l⟩:=By g o;exact⟨b,d,nS ((SJ (A:=cS K) e0 (show eH niM (.fn f [] c)=false from p) (show eH noM (.fn f [] c)=false from ho) (show eH dpM (.fn f [] c)=true from k) (n.fn f q c a' .no h1)).trans (by rw[e,OA,rR m])),l⟩
def TS [n:RunsM K](b:EG f=some ⟨nt,rs,body⟩)(e0:jB a h=(a',h1))
  (l:R_ K [.code body] (IQ rs P) .normal ⟨cU (a'++c),⟨[],.no,none,f⟩⟩ h1)
  (g:f∈ud:=by decide) (m:niM.contains f=false:=by decide) (ho:noM.contains f=true:=by decide) (j:dpM.contains f=false:=by decide):∃v d,cS K (.fn f [] c) a .no h=some (.ret v,.no,d)/\P v d:=by
 have⟨v,i,e,k⟩:=By b l;exact⟨v,i,EH e0 g m j (by rw[ho,cond_true,e]),k⟩
def af7 [q:RunsM K](g:EG f=some ⟨nt,rs,body⟩)
  (n:R_ K [.code body] (IQ rs λv i=>∃b d,mT v i=(b,d)/\P b d) .normal ⟨cU (a++c),⟨[],.no,none,f⟩⟩ h)
  (p:f∈ud:=by decide) (o:niM.contains f=true:=by decide) (ho:noM.contains f=false:=by decide) (k:dpM.contains f=false:=by decide):∃v j,cS K (.fn f [] c) a .no h=some (.ret v,.no,j)/\P v j:=by
 have⟨_,_,e,b,d,m,l⟩:=By g n;exact⟨b,d,adH p o k (by rw[ho,cond_false,e,rR m]),l⟩
def zN [o:RunsM K](b:EG f=some ⟨nt,rs,body⟩)[m:CanL a a']
  (l:R_ K [.code body] (IQ rs λv j=>∃d e,mT v j=(d,e)/\P d e) .normal ⟨cU (a'++c),⟨[],.no,none,f⟩⟩ h)
  (i:f∈ud:=by decide) (n:niM.contains f=false:=by decide) (ho:noM.contains f=false:=by decide) (k:dpM.contains f=false:=by decide):∃v g,cS K (.fn f [] c) a .no h=some (.ret v,.no,g)/\P v g:=kK b (m.c h) l i n ho k
def aV [j:RunsM K](b:EG f=some ⟨nt,rs,body⟩)[g:CanL a a']
  (e:R_ K [.code body] (Fin rs P) .normal ⟨cU a',⟨[],.no,none,f⟩⟩ h)
  (c:f∈ud:=by decide) (i:niM.contains f=false:=by decide) (ho:noM.contains f=false:=by decide) (d:dpM.contains f=false:=by decide):Rt K f a h P:=kK b (g.c h) (by rw[A_];exact e) c i ho d
def ZB [o:RunsM K](b:EG f=some ⟨nt,rs,body⟩)[m:CanL a a']
  (l:R_ K [.code body] (IQ rs λv j=>∃d e,mT v (AT v j)=(d,e)/\P d e) .normal ⟨cU (a'++c),⟨[],.no,none,f⟩⟩ h)
  (i:f∈ud:=by decide) (n:niM.contains f=false:=by decide) (ho:noM.contains f=false:=by decide) (k:dpM.contains f=true:=by decide):∃v g,cS K (.fn f [] c) a .no h=some (.ret v,.no,g)/\P v g:=TT b (m.c h) l i n ho k
def Ey [j:RunsM K](b:EG f=some ⟨nt,rs,body⟩)[g:CanL a a']
  (e:R_ K [.code body] (IQ rs P) .normal ⟨cU a',⟨[],.no,none,f⟩⟩ h)
  (c:f∈ud:=by decide) (i:niM.contains f=false:=by decide) (ho:noM.contains f=true:=by decide) (d:dpM.contains f=false:=by decide):Rt K f a h P:=TS b (g.c h) (by rw[A_];exact e) c i ho d
def cv_ {v:AV}{h:AH}{p:AV×AH}(e:cw v h=p)(a:∀l,v≠.tup l:=by intro l e;cases e):mT v h=p:=qM a e
def y_ {p:Prop}(h:p:=by simp only[go_sem];rfl):p:=h
abbrev F_ (n:Nat)(tm:Tm):AF:=⟨tm,⟨[],.no,none,n⟩⟩
attribute [go_sem] F_
def Fr {tm:Tm}{b:Option Nat}{a:AH}{v:AV}{f:Nat}[c:Can v v](d:P v a)(h:fH rs tm a=some [v]:=by first|(simp only[go_sem, *];done)|(simp only[go_sem, *];rfl))(g:∀l,v≠.tup l:=by intro l e;cases e):Fin rs P .ret ⟨tm,⟨[],.no,b,f⟩⟩ a:=
 ⟨rfl,rfl,.inr rfl,[v],h,v,a,qM g (c.c a),d⟩
def cG {tm:Tm}{a:AC}{c b:AH}{v d:AV}{e:AEx}(i:e=.normal\/e=.ret)(m:fH rs tm c=some [v])(f:cw v c=(d,b))(j:P d b)(k:∀l,v≠.tup l:=by intro l e;cases e)
  (g:a.dfs=[]:=by rfl) (h:a.rc=.no:=by rfl):Fin rs P e ⟨tm,a⟩ c:=by
 exact⟨g,h,i.elim .inl .inr,[v],m,d,b,qM k f,j⟩
def cO {tm:Tm}{d:AC}{c h3:AH}{a b:AV}{l l':List AV}{e:AEx}(i:e=.normal\/e=.ret)(k:fH rs tm c=some (a::b::l))(f:jB (a::b::l) c=(l',h3))(j:P (.tup l') h3)
  (h:d.dfs=[]:=by rfl) (g:d.rc=.no:=by rfl):Fin rs P e ⟨tm,d⟩ c:=by
 exact⟨h,g,i.elim .inl .inr,_,k,.tup l',h3,by show mT (.tup (a::b::l)) c=_;unfold mT;simp only[f],j⟩
structure HKx (w:Nat)(h h':AH):Prop where
 z:h.z<=h'.z
 kw:∀k,k<h.z->k≠w->h'.get k=h.get k
theorem HK.x {h a:AH}(x:HK h a)(w:Nat):HKx w h a:=⟨x.z,λk hk _=>x.kw k hk⟩
theorem HKx.refl (w:Nat)(h:AH):HKx w h h:=(HK.refl h).x w
theorem HKx.trans {w:Nat}{a b c:AH}(x:HKx w a b)(y:HKx w b c):HKx w a c:=⟨C_ x.z y.z,λk hk q=>(y.kw k (B_ hk x.z) q).trans (x.kw k hk q)⟩
def HKx.set {w:Nat}{h a:AH}(x:HKx w h a){j:Nat}(o:dF)(b:h.z<=j\/j=w):HKx w h (a.set j o):=⟨by rw[aE];exact x.z,λk hk q=>by rw[aA o_];exact x.kw k hk q⟩
theorem HKx.gu {w:Nat}{h a:AH}(x:HKx w h a){k:Nat}{o:dF}(g:h.get k=some o)(hk:k<h.z)(b:k≠w):a.get k=some o:=(x.kw k hk b).trans g
theorem HKx.tk {w:Nat}{a b c:AH}(x:HKx w a b)(y:HK b c):HKx w a c:=x.trans (y.x w)
theorem HK.tx {w:Nat}{a b c:AH}(x:HK a b)(y:HKx w b c):HKx w a c:=(x.x w).trans y
attribute [grind ->] HKx.z HKx.trans HKx.tk HK.tx
attribute [grind =>] HKx.gu
def HKx.up {w:Nat}{h a:AH}(x:HKx w h a){k:Nat}{o:Option dF}(g:h.get k=o)(hk:k<h.z:=by first|omega|grind)(b:k≠w:=by first|omega|grind):a.get k=o:=(x.kw k hk b).trans g
def vz {v:AV}(e0:jB a h=(a',h1))(e:K (.fn f [] c) a' .no h1=some (.ret v,.no,h1))(d:mT v h1=(v,h1))(g:niM.contains f=false:=by decide)(b:dpM.contains f=false:=by decide):cS K (.fn f [] c) a .no h=some (.ret v,.no,h1):=
 nS (OJ e0 (show eH niM (.fn f [] c)=false from g) (show eH dpM (.fn f [] c)=false from b) e d)
theorem dJ (e0:jB a h=(a',h1))(b:jB a' h1=(a',h1))(d:niM.contains f=false:=by decide):cS K (.fn f [] c) a .no h=cS K (.fn f [] c) a' .no h1:=Zy e0 b (show eH niM (.fn f [] c)=false from d)
end
theorem aJ (t:T):enc t=.agg [.I t.D,.I t.X,.str t.N,.eL t.L,.eT t.K]:=by cases t;exact pQ _ _ _ _ _
def aG (t:T):List AV:=[.I t.D,.I t.X,.str t.N,.eL t.L,.eT t.K]
@[go_sem] def cellsT_len (t:T):(aG t).length=5:=(rfl)
theorem eM (t:T):enc t=.agg (aG t):=aJ t
def Du {a b:AV}(e:a.norm=b)(c:b.free=true):a.free=true:=by rw[<-wC,e];exact c
def jc {a:AV}{t:T}(e:a.norm=enc t)(h:AH):cw a h=(enc t,h):=by rw[bQ (Du e (mY t)),e]
def cJ (t:T)(h:AH):cw (enc t) h=(enc t,h):=jc (iU t) h
def mL (l:List T)(h:AH):cw (.eT l) h=(.eT l,h):=by
 rw[bQ (show(AV.eT l).free=true by simp only[AV.free];exact IZ l)];simp only[AV.norm,yU]
def KJ (l:List LL)(h:AH):cw (.eL l) h=(.eL l,h):=by
 rw[bQ (show(AV.eL l).free=true by simp only[AV.free];exact bY jK l)];simp only[AV.norm,bB iS l]
def rB (l:LL)(h:AH):cw (cB l) h=(cB l,h):=by
 rw[bQ (jK l),iS]
instance (t:T):Can (enc t) (enc t):=⟨cJ t⟩
instance (l:List T):Can (.eT l) (.eT l):=⟨mL l⟩
instance (l:List LL):Can (.eL l) (.eL l):=⟨KJ l⟩
instance (l:LL):Can (cB l) (cB l):=⟨rB l⟩
theorem iV {k i:Int}{nm:ByteArray}{ls:List LL}{ks:List T}{b a:AV}(d:b.norm=.eL ls)(c:a.norm=.eT ks):(AV.agg [.I k,.I i,.str nm,b,a]).norm=enc (.mk k i nm ls ks):=by
 rw[pQ];simp only[AV.norm,AV.norms,d,c]
def dw (a b:Int):dT 1 (.I a) (.I b)=some (decide (a=b)):=by
 show cond (Rh .i64 .i64) (some (Ri a b)) none=_;rw[CV,tH];rfl
theorem vX (a b:List UInt8):aaj a b=decide (a=b):=by
 have e:=nj (bs a) (bs b);have c:((bs a)==(bs b))=decide (a=b):=by
  have d:((bs a)==(bs b))=((bs a).data==(bs b).data):=rfl;rw[d];by_cases h:a=b
  ·subst h;simp
  have:(bs a).data≠(bs b).data:=λq=>h (by simpa [bs] using q);simp[h,this]
 exact e.trans c
def nV (a b:List UInt8):dT 2 (.str (bs a)) (.str (bs b))=some (decide (a=b)):=by
 show some (aaj a b)=_;rw[vX]
def Ql (p:Int×Int):AV:=.agg [.I p.1,.I p.2]
def uy (a b:Int×Int):dT 3 (Ql a) (Ql b)=some (decide (a=b)):=by
 show(aI (ie 1 (.I a.1) (.I b.1)) λs=>cond s (ie 1 (.I a.2) (.I b.2)) (some false))=_;have e:∀x y:Int,ie 1 (.I x) (.I y)=some (decide (x=y)):=dw;rw[e,e,aK];have⟨g,f⟩:=a;have⟨c,i⟩:=b;by_cases h:g=c
 ·subst h;by_cases d:f=i<;>simp[d]
 simp[h]
section
variable {κ α:Type}[DecidableEq κ](kf:κ->AV)(f:α->AV)(t:Nat)
def mpg (L:List (κ×α)):List (AV×AV):=L.map λe=>(kf e.1,f e.2)
def lkg:List (κ×α)->κ->Option α
 |[],_=>none
 |e::L,k=>if k=e.1 then some e.2 else lkg L k
def stg:List (κ×α)->κ->α->List (κ×α)
 |[],k,v=>[(k,v)]
 |e::L,k,v=>if k=e.1 then (k,v)::L else e::stg L k v
def qH {L:List (κ×α)}{k:κ}{v:α}(h:lkg L k=some v):(k,v)∈L:=by
 induction L with
 |nil=>cases h
 |cons e L a=>
  rw[lkg]at h;by_cases q:k=e.1
  ·rw[P_ q]at h;cases h;rw[q];exact List.mem_cons_self
  rw[N_ q]at h;exact List.mem_cons_of_mem _ (a h)
def stg_mem {L:List (κ×α)}{k:κ}{v:α}{e:κ×α}(h:e∈stg L k v):e=(k,v)\/e∈L:=by
 induction L with
 |nil=>simp only[stg,W_]at h;exact .inl h
 |cons x L a=>
  rw[stg]at h;by_cases q:k=x.1
  ·rw[P_ q]at h;rcases X_.1 h with h|h
   ·exact .inl h
   exact .inr (List.mem_cons_of_mem _ h)
  rw[N_ q]at h;rcases X_.1 h with h|h
  ·exact .inr (by rw[h];exact List.mem_cons_self)
  rcases a h with h|h
  ·exact .inl h
  exact .inr (List.mem_cons_of_mem _ h)
def Xw {L:List (κ×α)}{k:κ}(v:α)(h:lkg L k=none):stg L k v=L++[(k,v)]:=by
 induction L with
 |nil=>rfl
 |cons x L a=>
  rw[lkg]at h;rw[stg];by_cases q:k=x.1
  ·rw[P_ q]at h;cases h
  rw[N_ q]at h ⊢;rw[a h];rfl
variable {kf t}(hk:∀a b,dT t (kf a) (kf b)=some (decide (a=b)))
include hk
theorem Et (k:κ):∀L:List (κ×α),uj (mpg kf f L) t (kf k)=some ((lkg L k).map f)
 |[]=>rfl
 |e::L=>by
  show aI (dT t (kf k) (kf e.1)) (λb=>cond b (some (some (f e.2))) (uj (mpg kf f L) t (kf k)))=_;rw[hk,aK,Et k L,lkg];by_cases h:k=e.1
  ·simp[h]
  simp[h]
theorem Uk (k:κ)(v:α):∀L:List (κ×α),uK (mpg kf f L) t (kf k) (f v)=mpg kf f (stg L k v)
 |[]=>rfl
 |e::L=>by
  show(Option.casesOn (dT t (kf k) (kf e.1)) ((kf e.1,f e.2)::uK (mpg kf f L) t (kf k) (f v)) λb=>cond b ((kf k,f v)::mpg kf f L) ((kf e.1,f e.2)::uK (mpg kf f L) t (kf k) (f v)):List (AV×AV))=_;rw[hk,Uk k v L,stg];by_cases h:k=e.1
  ·simp[h,mpg]
  simp[h,mpg]
theorem ki {h:AH}{a:Nat}{L:List (κ×α)}(hm:h.get a=some (.map (mpg kf f L)))(k:κ)(z:AV)(ok:Bool):
  iq h t z ok (.map a) (kf k)=some (match lkg L k with|some o=>cond ok (.tup [f o,.bool true]) (f o)|none=>cond ok (.tup [z,.bool false]) z):=by
 show aI (dT t (kf k) (kf k)) (λ_=>aI (some a) λa=>aI (aI (h.get a) WI) λb=>aI (uj b t (kf k)) λr=>some (MJ r z ok))=_;rw[hk,aK,aK,hm];show aI (uj (mpg kf f L) t (kf k)) _=_;rw[Et f hk];cases lkg L k<;>rfl
theorem lS {h:AH}{a:Nat}{L:List (κ×α)}(hm:h.get a=some (.map (mpg kf f L)))(k:κ)(v:α):
  iR h t (.map a) (kf k) (f v)=some (h.set a (.map (mpg kf f (stg L k v)))):=by
 show aI (aI (h.get a) WI) (λb=>aI (dT t (kf k) (kf k)) λ_=>aI (uj b t (kf k)) λ_=>some (h.set a (.map (uK b t (kf k) (f v)))))=_;rw[hm];show aI (dT t (kf k) (kf k)) (λ_=>aI (uj (mpg kf f L) t (kf k)) λ_=>some (h.set a (.map (uK (mpg kf f L) t (kf k) (f v)))))=_;rw[hk,Et f hk,Uk f hk];rfl
end
def kfS (l:List UInt8):AV:=.str (bs l)
def yE {a bytes:Nat}{agg:Bool}{h:AH}{k g:Nat}{x:AV}{out z:List AV}(hk:h.get k=some (.row g a agg (bJ out) 0))(ho:∀y∈out,y.cells.length=a)(l:z.length=a)(hx:x.cells.length=a)(e:x.lies=true)
  (m:out.length<100000) (j:bytes<=1000) :
  cI h a agg z bytes (.row k g a 0 out.length) (.clip [x])=some (.row k (g+1) a 0 (out.length+1),h.set k (.row (g+1) a agg (bJ (out++[x])) 0)):=by
 have e0:cI h a agg z bytes (.row k g a 0 out.length) (.clip [x])=kO (.row k g a 0 out.length) h a agg bytes [x]:=by
  show aI (cond (and (Nat.beq (len x.cells) a) true) (some [x]) none) (λi=>cond (and (fT i) (Nat.beq (len z) a)) _ _)=_;rw[bT,hx,fR];show cond (and (and x.lies true) (Nat.beq (len z) a)) _ _=_;rw[e,bT,l,fR];rfl
 have b:need out.length 1 bytes=true:=by
  show and (Nat.ble ((2*(out.length+1)+1000)*bytes) 140737488355328) (Nat.ble (out.length+1) 9223372036854775807)=true;rw[fK (show out.length+1<=9223372036854775807 by omega),fK]
  ·rfl
  calc (2*(out.length+1)+1000)*bytes<=300000*1000:=Nat.mul_le_mul o_ j
   _<=140737488355328:=by decide
 have c:=lR ho;have f:AG.kR h k g a=some (agg,bJ out,0):=by
  unfold AG.kR;rw[hk,aK];show aI (some (g,a,agg,bJ out,0)) _=_;rw[aK];show cond (and (Nat.beq g g) (Nat.beq a a)) _ _=_;rw[fR,fR];rfl
 rw[e0];show cond (Nat.beq a a) (aI (AG.kR h k g a) _) none=_;rw[fR,f,cond_true,aK];show cond (and (nJ agg agg) (and (Nat.ble 0 ((0+out.length)*a)) (and (Nat.ble ((0+out.length)*a) (len (bJ out))) (need out.length 1 bytes))))
  (some (AV.row k (g+1) a 0 (out.length+1),h.set k (.row (g+1) a agg (app (tke (out.length*a) (drp (0*a) (bJ out))) (bJ [x])) (0-0*a)))) none=_
 have d:nJ agg agg=true:=by cases agg<;>rfl
 rw[d,b,bT,fK (show 0<=(0+out.length)*a by omega),fK (show(0+out.length)*a<=(bJ out).length by rw[c,z_];exact e_ _)];simp only[Nat.zero_mul,Nat.sub_self,lY,lu,iC,List.drop_zero];rw[<-c,K_,fW];rfl
def jf {kk g n a sz:Nat}(b:a<n)(k:IntKind):bW (.row kk g sz 0 n) sz (.int k (a:Int))=some (.ptr kk g (a*sz)):=by
 show cond (Nat.beq sz sz) (aI (aI (some a) λm=>cond (Nat.blt m n) (some m) none) λn=>some (AV.ptr kk g (Nat.mul (Nat.add 0 n) sz))) none=_;have c:Nat.blt a n=true:=Nat.ble_eq_true_of_le b;rw[aK,c,fR];show some (AV.ptr kk g (Nat.mul (Nat.add 0 a) sz))=_;congr 2;show(0+a)*sz=a*sz;rw[z_]
def qI {b:Nat}: ∀{out:List AV} {a:Nat} {x:AV},(∀y∈out,y.cells.length=b)->out[a]?=some x->((bJ out).drop (a*b)).take b=x.cells
 |y::l,0,x,h,e=>by
  cases e;rw[cK,Nat.zero_mul,List.drop_zero];exact List.take_left' (h y (by simp))
 |y::l,a+1,x,h,e=>by
  have c:=h y (by simp);rw[cK,Nat.succ_mul,Nat.add_comm,<-c,<-List.drop_drop,List.drop_left' rfl,c];exact qI (λz d=>h z (by simp[d])) e
def PY {x:AV}(h:x.isAgg=true):AV.agg x.cells=x:=by cases x<;>simp[AV.isAgg,AV.cells]at h ⊢
def Mk {e g a fz b:Nat}{h:AH}{out:List AV}{x:AV}(hk:h.get e=some (.row g b true (bJ out) fz))(ho:∀x∈out,x.cells.length=b)(hx:x.isAgg=true)(d:out[a]?=some x):cC (.ptr e g (a*b)) h true b=some x:=by
 have f:=(E_.1 d).1;rw[fE,hk,aK];show cond (Nat.beq g g) (xG true b (a*b) (bJ out)) none=_;have c:=lR ho;have:a*b+b<=out.length*b:=by
  calc a*b+b=(a+1)*b:=by rw[Nat.succ_mul]
   _<=_:=Nat.mul_le_mul f (e_ _)
 rw[fR,cond_true,lv _ _ _ (by rw[c];omega),qI ho d,PY hx]
def rO {b g a fz:Nat}{h:AH}{out:List AV}{x:AV}(hk:h.get b=some (.row g 1 false out fz))(c:out[a]?=some x):cC (.ptr b g (a*1)) h false 1=some x:=by
 rw[fE,hk,aK];show cond (Nat.beq g g) (xG false 1 (a*1) out) none=_;rw[fR,cond_true,Nat.mul_one,EJ,c]
def Sd {e g a fz b i:Nat}{h:AH}{out:List AV}{x y:AV}(hk:h.get e=some (.row g b true (bJ out) fz))(ho:∀x∈out,x.cells.length=b)(d:out[a]?=some x)(hi:x.cells[i]?=some y):cC (.ptr e g (a*b+i)) h false 1=some y:=by
 rw[fE,hk,aK];show cond (Nat.beq g g) (xG false 1 (a*b+i) (bJ out)) none=_;rw[fR,cond_true,EJ];have f:=qI ho d;have c:i<b:=by have:=(E_.1 hi).1;rw[ho x (m_ d)]at this;exact this
 rw[<-hi,<-f,List.getElem?_take,P_ c,List.getElem?_drop]
def acL (e:AEx):Md:=match e with
 |.panic v=>.panicking v
 |_=>.returning
def XQm (d:List bG)(P:ep->RC->AH->Prop)(tm:Tm)(c:RC)(a:AH)(m:Md):Prop:=match m with
 |.returning=>∃b,fH d tm a=some b/\P (.ret (one b)) c a
 |.panicking v=>P (.pan v) c a
def XQ (call:aN)(d:List bG)(P:ep->RC->AH->Prop)(e:AEx)(a:AF)(c:AH):Prop:=
 (∀id,e≠.exit id)/\∃m b,ou a.cx.dfs call (acL e) c=some (m,b)/\XQm d P a.tm a.cx.rc b m
def adY {E:Env}{call:aN}{n:Nat}{f:FuncId}{z:List AV}{w:RC}{l:AH}{P:ep->RC->AH->Prop}{t:Nat}{i:List bG}{b:bu}(s:E f=some ⟨t,i,b⟩)
  (B:R call n [.code b] (XQ call i P) .normal ⟨cU z,⟨[],w,none,f⟩⟩ l):∃o j h',qw E call n f z w l=some (o,j,h')/\P o j h':=by
 have⟨e,⟨tm,⟨c,a,d,g⟩⟩,h,q,r,m,k,u,hm⟩:=B;replace u:ou c call (acL e) h=some (m,k):=u;replace hm:XQm i P tm a k m:=hm;have G:=q;have x:∃o h',Dd call ⟨t,i,b⟩ ⟨tm,⟨c,a,d,g⟩⟩ (acL e) h=some (o,a,h')/\P o a h':=by
  show ∃o h',aI (ou c call (acL e) h) (λp=>aby p.1 ⟨t,i,b⟩ ⟨tm,⟨c,a,d,g⟩⟩ p.2)=some (o,a,h')/\P o a h';rw[u,aK];cases m with
  |returning=>
   have⟨A,C,F⟩:=hm;refine⟨_,_,?_,F⟩;show aI (fH i tm k) (λA=>some (ep.ret (one A),a,k))=_;rw[C,aK]
  |panicking v=>exact⟨_,_,rfl,hm⟩
 have⟨o,h',y,D⟩:=x;refine⟨o,a,h',?_,D⟩;unfold qw;rw[s,aK];simp only[G,aK];cases e with
 |normal=>exact y
 |ret=>exact y
 |panic v=>exact y
 |exit id=>exact absurd rfl (r id)
def mD (P:ep->RC->AH->Prop)(o:ep)(b:RC)(h:AH):Prop:=match o with
 |.ret v=>∃a h',mT v h=(a,h')/\P (.ret a) b h'
 |.pan v=>P (.pan v) b h
def Rn (e:aN)(f:Nat):Prop:=∀(c a g:List AV) (k:RC) (h i:AH) (l:Nat) (j:List bG) (b:bu) (P:ep->RC->AH->Prop),
 EG f=some ⟨l,j,b⟩->jB a h=(g,i)->R e 1000000000000 [.code b] (XQ e j (mD P)) .normal ⟨cU (g++c),⟨[],k,none,f⟩⟩ i->∃o d h',e (.fn f [] c) a k h=some (o,d,h')/\P o d h'
def lW {K:aN}[s:RunsM K]{f:Nat}(j:f∈ud:=by decide)(i:niM.contains f=false:=by decide)(ho:noM.contains f=false:=by decide)(g:dpM.contains f=false:=by decide):Rn (cS K) f:=by
 intro c a t r h u x q k P d e0 n;have⟨o,_,_,e,b⟩:=adY d n;cases o with
 |ret v=>
  have⟨_,_,m,b⟩:=b;exact⟨_,_,_,EH e0 j i g (by rw[ho,cond_false,e,rR m]),b⟩
 |pan v=>exact⟨_,_,_,EH e0 j i g (by rw[ho,cond_false,e,Su]),b⟩
def jl {call:aN}{c:List bG}{P:ep->RC->AH->Prop}{tm:Tm}{g:RC}{b:Option Nat}{f:FuncId}{a:AH}{vs:List AV}{e:AEx}(d:e=.normal\/e=.ret)(i:fH c tm a=some vs)(h:P (.ret (one vs)) g a):XQ call c P e ⟨tm,⟨[],g,b,f⟩⟩ a:=by
 refine⟨?_,.returning,a,?_,vs,i,h⟩
 ·rcases d with rfl|rfl<;>intro id e<;>cases e
 rcases d with rfl|rfl<;>rfl
def jE {call:aN}{d:List bG}{P:ep->RC->AH->Prop}{tm:Tm}{c:RC}{b:Option Nat}{f:FuncId}{a:AH}{v:AV}(g:P (.pan v) c a):XQ call d P (.panic v) ⟨tm,⟨[],c,b,f⟩⟩ a:=
 ⟨λid e=>(by cases e),.panicking v,a,rfl,g⟩
def Vz {call:aN}{g:List bG}{P:ep->RC->AH->Prop}{tm:Tm}{h:RC}{b:Option Nat}{f:FuncId}{c a:AH}{v d u:AV}{vs:List AV}(i:call d [] (.pend v) c=some (.ret u,.done,a))(k:fH g tm a=some vs)(j:P (.ret (one vs)) h a):XQ call g P (.panic v) ⟨tm,⟨[.call d []],h,b,f⟩⟩ c:=by
 refine⟨λid e=>(by cases e),.returning,a,?_,vs,k,j⟩;show aI (aI (call d [] (.pend v) c) λq=>KC q.1 q.2.1 (.panicking v) q.2.2) (λp=>some (p.1,p.2))=_;rw[i];rfl
def VA {call:aN}{g:List bG}{P:ep->RC->AH->Prop}{tm:Tm}{i:RC}{d:Option Nat}{f:FuncId}{b a:AH}{c u:AV}{vs:List AV}{e:AEx}(h:e=.normal\/e=.ret)(j:call c [] .ret b=some (.ret u,.ret,a))(l:fH g tm a=some vs)(k:P (.ret (one vs)) i a):XQ call g P e ⟨tm,⟨[.call c []],i,d,f⟩⟩ b:=by
 refine⟨?_,.returning,a,?_,vs,l,k⟩
 ·rcases h with rfl|rfl<;>intro id e<;>cases e
 have:ou [.call c []] call .returning b=some (.returning,a):=by
  show aI (aI (call c [] .ret b) λq=>KC q.1 q.2.1 .returning q.2.2) (λp=>some (p.1,p.2))=_;rw[j];rfl
 rcases h with rfl|rfl<;>exact this
def Oz (t:TypeId)(v:AV):tE (.ifc t v)=.pan (.ifc t v):=(rfl)
def Sj (d:Option Nat)(tm:Tm)(a:List DF)(v:AV)(b:FuncId)(h:AH):JO d ⟨tm,⟨a,.pend v,none,b⟩⟩ h=some (.normal,⟨fI d tm v,⟨a,.done,none,b⟩⟩,h):=(rfl)
def XX (d:Option Nat)(tm:Tm)(a:List DF)(b:FuncId)(h:AH):JO d ⟨tm,⟨a,.ret,none,b⟩⟩ h=some (.normal,⟨fI d tm .nili,⟨a,.ret,none,b⟩⟩,h):=(rfl)
def Yu (t:TypeId)(v:AV):rj (.ifc t v) .neq .iface .nili=some (.bool true):=(rfl)
def SN:rj .nili .neq .iface .nili=some (.bool false):=(rfl)
def PS (e:Int):rV (.ifc 33 (.I e)) 33 (.I 0)=some (.tup [.I e,.bool true]):=(rfl)
attribute [go_sem] Oz Sj XX Yu SN PS adg aef dP_t dP_f agu ZO Xh Rq Rs ac0 acZ
def Jp (e:Int)(h:AH):cw (.ifc 33 (.I e)) h=(.ifc 33 (.I e),h):=bQ (by simp[AV.free]) h
structure NV where
 D:Int
 X:Int
 N:ByteArray
 L:List LL
 K:List Int
abbrev n_ (n:NV):List AV:=[.I n.D,.I n.X,.str n.N,.eL n.L,.eI n.K]
def bU (n:NV):AV:=.agg [.I n.D,.I n.X,.str n.N,.eL n.L,.eI n.K]
abbrev _root_.Go.AG.AV.eN (l:List NV):AV:=.ls (l.map bU)
@[go_sem] def encN_len (n:NV):(bU n).cells.length=5:=(rfl)
@[go_sem] def encN_lies (n:NV):(bU n).lies=true:=(rfl)
def Az (l:List NV):∀x∈l.map bU,x.cells.length=5:=by
 intro x hx;obtain⟨_,_,rfl⟩:=List.mem_map.1 hx;rfl
def ng (l:List Int):∀x∈l.map AG.bh,x.cells.length=1:=by
 intro x hx;obtain⟨_,_,rfl⟩:=List.mem_map.1 hx;rfl
def uf (l:LL):List UInt8:=91::(Lib.itoa l.c++32::l.V.flatMap λv=>Lib.itoa v.X++32::(Lib.itoa v.P++[32]))
def dN (n:NV):List UInt8:=Lib.itoa n.D++32::(Lib.itoa n.X++32::(n.N.data.toList++(n.L.flatMap uf++124::n.K.flatMap λk=>Lib.itoa k++[32])))
structure Ms where
 ns:List NV
 ts:List T
 fr:List Int
 w:List (Int×Int)
 n:List (Int×Int)
 con:Int
 vis:Int
structure Ma where
 a:Nat
 kI:Nat
 kN:Nat
 kF:Nat
 kW:Nat
 kM:Nat
 kU:Nat
 kS:Nat
structure Ma.Ok (A:Ma)(B B1:Nat):Prop where
 nd:[A.a,A.kI,A.kN,A.kF,A.kW,A.kM].Nodup
 rg:∀k∈[A.a,A.kI,A.kN,A.kF,A.kW,A.kM],B<=k/\k<B1/\k≠B+4/\k≠B+5
 us:A.kU=B+4/\A.kS=B+5/\B+5<B1
def idx (l:List NV):List (List UInt8×Int):=l.zipIdx.map λp=>(dN p.1,(p.2:Int))
def kj (A:Ma)(E:AV)(M:Ms)(gN gF:Nat):dF:=.box [.row A.kN gN 5 0 M.ns.length,E,.map A.kI,.row A.kF gF 1 0 M.fr.length,.map A.kW,.map A.kM,.map A.kU,.map A.kS,.I M.con,.I M.vis]
structure St (A:Ma)(B B1:Nat)(E:AV)(M:Ms)(gN gF:Nat)(h:AH):Prop where
 ok:A.Ok B B1
 gA:h.get A.a=some (kj A E M gN gF)
 gI:h.get A.kI=some (.map (mpg kfS AG.bh (idx M.ns)))
 gN:h.get A.kN=some (.row gN 5 true (bJ (M.ns.map bU)) 0)
 gF:h.get A.kF=some (.row gF 1 false (bJ (M.fr.map AG.bh)) 0)
 gW:h.get A.kW=some (.map (mpg AG.bh AG.bh M.w))
 gM:h.get A.kM=some (.map (mpg AG.bh AG.bh M.n))
 b1:B1<=h.z
structure HM (B B1:Nat)(h h':AH):Prop where
 z:h.z<=h'.z
 kw:∀k,k<h.z->k<B\/B1<=k\/k=B+4\/k=B+5->h'.get k=h.get k
section
variable {B B1:Nat}{h h' h'':AH}
theorem HM.refl (h:AH):HM B B1 h h:=⟨e_ _,λ_ _ _=>rfl⟩
theorem HM.trans (x:HM B B1 h h')(y:HM B B1 h' h''):HM B B1 h h'':=⟨C_ x.z y.z,λk hk q=>(y.kw k (B_ hk x.z) q).trans (x.kw k hk q)⟩
theorem HK.m (x:HK h h'):HM B B1 h h':=⟨x.z,λk hk _=>x.kw k hk⟩
def HM.set (x:HM B B1 h h'){k:Nat}(o:dF)(hk:h.z<=k\/B<=k/\k<B1/\k≠B+4/\k≠B+5):HM B B1 h (h'.set k o):=
 ⟨by rw[aE];exact x.z,λj a q=>by rw[aA o_];exact x.kw j a q⟩
theorem HM.new (x:HM B B1 h h')(o:dF):HM B B1 h (h'.new o):=x.trans (HK.new _ _).m
theorem HM.gu (x:HM B B1 h h'){k:Nat}{o:dF}(g:h.get k=some o)(hk:k<h.z)(a:k<B\/B1<=k\/k=B+4\/k=B+5):h'.get k=some o:=(x.kw k hk o_).trans g
theorem HM.tk (x:HM B B1 h h')(y:HK h' h''):HM B B1 h h'':=x.trans y.m
theorem HK.tm (x:HK h h')(y:HM B B1 h' h''):HM B B1 h h'':=x.m.trans y
attribute [grind ->] HM.z HM.trans HM.tk HK.tm
attribute [grind =>] HM.gu
attribute [grind <-] HK.m
def HM.up (x:HM B B1 h h'){k:Nat}{o:Option dF}(g:h.get k=o)(hk:k<h.z:=by first|omega|grind)(a:k<B\/B1<=k\/k=B+4\/k=B+5:=by first|omega|grind):h'.get k=o:=(x.kw k hk a).trans g
end
section
variable {A:Ma}{B B1:Nat}{E:AV}{M:Ms}{gN gF:Nat}{h h':AH}
def Ma.Ok.rng (ok:A.Ok B B1):(B<=A.a/\A.a<B1/\A.a≠B+4/\A.a≠B+5)/\(B<=A.kI/\A.kI<B1/\A.kI≠B+4/\A.kI≠B+5)/\(B<=A.kN/\A.kN<B1/\A.kN≠B+4/\A.kN≠B+5)/\(B<=A.kF/\A.kF<B1/\A.kF≠B+4/\A.kF≠B+5)/\(B<=A.kW/\A.kW<B1/\A.kW≠B+4/\A.kW≠B+5)/\(B<=A.kM/\A.kM<B1/\A.kM≠B+4/\A.kM≠B+5):=
 ⟨ok.rg _ (by simp),ok.rg _ (by simp),ok.rg _ (by simp),ok.rg _ (by simp),ok.rg _ (by simp),ok.rg _ (by simp)⟩
def Ma.Ok.ne (ok:A.Ok B B1):A.a≠A.kI/\A.a≠A.kN/\A.a≠A.kF/\A.a≠A.kW/\A.a≠A.kM/\A.kI≠A.kN/\A.kI≠A.kF/\A.kI≠A.kW/\A.kI≠A.kM/\A.kN≠A.kF/\A.kN≠A.kW/\A.kN≠A.kM/\A.kF≠A.kW/\A.kF≠A.kM/\A.kW≠A.kM:=by
 have:=ok.nd;simp only[List.nodup_cons,X_,List.not_mem_nil,or_false,not_or,List.nodup_nil,and_true,not_false_eq_true]at this;omega
def St.up (s:St A B B1 E M gN gF h)(g:h.z<=h'.z)(e:∀k,B<=k->k<B1->h'.get k=h.get k):St A B B1 E M gN gF h':=by
 have⟨a,d,c,f,b,r6⟩:=s.ok.rng;exact⟨s.ok,(e _ a.1 a.2.1).trans s.gA,(e _ d.1 d.2.1).trans s.gI,(e _ c.1 c.2.1).trans s.gN,(e _ f.1 f.2.1).trans s.gF,(e _ b.1 b.2.1).trans s.gW,(e _ r6.1 r6.2.1).trans s.gM,C_ s.b1 g⟩
theorem St.hk (s:St A B B1 E M gN gF h)(x:HK h h'):St A B B1 E M gN gF h':=s.up x.z λk _ a=>x.kw k (by have:=s.b1;omega)
theorem St.new (s:St A B B1 E M gN gF h)(o:dF):St A B B1 E M gN gF (h.new o):=s.hk (HK.new _ _)
def St.set (s:St A B B1 E M gN gF h){k:Nat}(o:dF)(hk:B1<=k):St A B B1 E M gN gF (h.set k o):=s.up (by rw[aE];exact e_ _) λj _ a=>by rw[aA o_]
def St.count (s:St A B B1 E M gN gF h)(c v:Int):St A B B1 E {M with con:=c,vis:=v} gN gF (h.set A.a (kj A E {M with con:=c,vis:=v} gN gF)):=by
 have⟨n1,n2,b,d,a,_⟩:=s.ok.ne;exact⟨s.ok,aF _ _ _,by rw[aA n1.symm];exact s.gI,by rw[aA n2.symm];exact s.gN,by rw[aA b.symm];exact s.gF,by rw[aA d.symm];exact s.gW,by rw[aA a.symm];exact s.gM,by rw[aE];exact s.b1⟩
end
def pv:AV:=.ifc 33 (.I 11)
instance:Can pv (.ifc 33 (.I 11)):=⟨Jp 11⟩
def QY {K:aN}[RunsM K](h:AH):cS K (.fn 98 [] []) [] .no h=some (.pan pv,.no,h):=by
 obtain⟨o,a,h',b,rfl,rfl,rfl⟩:=(lW) [] _ _ .no h _ _ _ _ (λo a h'=>o=.pan pv/\a=.no/\h'=h) afc (aH _) (by
  simp only[go_sem];exact jE ⟨rfl,rfl,rfl⟩)
 exact b
section
variable {K:aN}{A:Ma}{B B1:Nat}{E:AV}{M:Ms}{gN gF:Nat}{h:AH}
def Cm (K:aN)(B B1:Nat)(f:Nat)(c a:List AV)(h:AH)(Q:AV->AH->Prop):Prop:=
 ∃o h',cS K (.fn f [] c) a .no h=some (o,.no,h')/\HM B B1 h h'/\((∃v,o=.ret v/\Q v h')\/o=.pan pv)
def PM (B B1:Nat)(h:AH)(Q:AV->AH->Prop)(o:ep)(a:RC)(h':AH):Prop:=a=.no/\HM B B1 h h'/\((∃v,o=.ret v/\Q v h')\/o=.pan pv)
def ZV [RunsM K]{f q:Nat}{g:List bG}{b:bu}{c a d:List AV}{Q:AV->AH->Prop}(e:EG f=some ⟨q,g,b⟩)(e0:jB a h=(d,h))
  (l:R_ K [.code b] (XQ (cS K) g (mD (PM B B1 h Q))) .normal ⟨cU (d++c),⟨[],.no,none,f⟩⟩ h)
  (n:f∈ud:=by decide) (m:niM.contains f=false:=by decide) (ho:noM.contains f=false:=by decide) (i:dpM.contains f=false:=by decide):Cm K B B1 f c a h Q:=by
 obtain⟨o,_,h',p,rfl,j,k⟩:=(lW n m ho i) c a d .no h h _ _ _ (PM B B1 h Q) e e0 l;exact⟨o,h',p,j,k⟩
def iW [RunsM K]{f l:Nat}{g:List bG}{b:bu}{c a e:List AV}{Q:AV->AH->Prop}(d:EG f=some ⟨l,g,b⟩)[n:CanL a e]
  (m:R_ K [.code b] (XQ (cS K) g (mD (PM B B1 h Q))) .normal ⟨cU (e++c),⟨[],.no,none,f⟩⟩ h)
  (i:f∈ud:=by decide) (k:niM.contains f=false:=by decide) (ho:noM.contains f=false:=by decide) (j:dpM.contains f=false:=by decide):Cm K B B1 f c a h Q:=ZV d (n.c h) m i k ho j
def oB {call:aN}{g:List bG}{tm:Tm}{d:Option Nat}{f:FuncId}{c a:AH}{vs:List AV}{e:AEx}{b:AV}{Q:AV->AH->Prop}(k:e=.normal\/e=.ret)(l:fH g tm c=some vs)(j:mT (one vs) c=(b,a))(hm:HM B B1 h a)(i:Q b a):
  XQ call g (mD (PM B B1 h Q)) e ⟨tm,⟨[],.no,d,f⟩⟩ c:=jl k l ⟨b,a,j,rfl,hm,.inl ⟨b,rfl,i⟩⟩
theorem cP {call:aN}{c:List bG}{tm:Tm}{a:Option Nat}{f:FuncId}{b:AH}{Q:AV->AH->Prop}(hm:HM B B1 h b):
  XQ call c (mD (PM B B1 h Q)) (.panic pv) ⟨tm,⟨[],.no,a,f⟩⟩ b:=jE ⟨rfl,hm,.inr rfl⟩
def c1061 [RunsM K](s:St A B B1 E M gN gF h)(d:0<=M.vis)(e:M.vis<=4000000):
  Cm K B B1 (61) [] [.P A.a] h λv h'=>v=.tup []/\M.vis<4000000/\St A B B1 E {M with vis:=M.vis+1} gN gF h':=by
 refine iW afz ?_;have g:=s.gA;have r:=s.ok.rng.1;have c:=aW (M.vis+1) o_ o_;have a:=QY;unfold kj at g;simp only[*,go_sem];refine aU (λb=>?_) (λb=>?_)
 ·simp only[go_sem,a];exact cP ((HM.refl h).set _ (.inr r))
 simp only[go_sem];exact oB (.inl rfl) rfl (bF (aH _)) ((HM.refl h).set _ (.inr r)) ⟨rfl,o_,s.count M.con (M.vis+1)⟩
def c1065 [RunsM K](s:St A B B1 E M gN gF h)(d:0<=M.con)(e:M.con<=20000):
  Cm K B B1 (65) [] [.P A.a] h λv h'=>v=.tup []/\M.con<20000/\St A B B1 E {M with con:=M.con+1} gN gF h':=by
 refine iW afv ?_;have g:=s.gA;have r:=s.ok.rng.1;have c:=aW (M.con+1) o_ o_;have a:=QY;unfold kj at g;simp only[*,go_sem];refine aU (λb=>?_) (λb=>?_)
 ·simp only[go_sem,a];exact cP ((HM.refl h).set _ (.inr r))
 simp only[go_sem];exact oB (.inl rfl) rfl (bF (aH _)) ((HM.refl h).set _ (.inr r)) ⟨rfl,o_,s.count (M.con+1) M.vis⟩
end
def cN (a:Int):Int:=if a=4\/a=5\/a=6\/a=7 then 2 else if a=8\/a=11 then 3 else if a=9\/a=10 then 1 else 0
mutual
def fp:T->Int
 |.mk k i _ _ a=>gj k 0 a (if k=0 then i+1 else 0)
def gj (k:Int):Nat->List T->Int->Int
 |_,[],a=>a
 |j,t::l,a=>gj k (j+1) l (max a (fp t-bK k j))
end
theorem xk (k:Int):∀(l:List T) (j:Nat) (t:T) (a:Int),gj k j (l++[t]) a=max (gj k j l a) (fp t-bK k ((j+l.length:Nat):Int))
 |[],j,t,a=>by simp[gj]
 |x::l,j,t,a=>by
  rw[Q_,gj,gj,xk k l (j+1) t _];rw[show j+1+l.length=j+(x::l).length by simp;omega]
def Rng (x:LV):Prop:=-65536<=x.X/\x.X<=7/\0<=x.P/\x.P<=100
structure VL (l:LL):Prop where
 c0:0<=l.c
 c1:l.c<=100
 rng:∀(i:Nat) x,l.V[i]?=some x->Rng x
 ord:∀(i:Nat) x y,l.V[i]?=some x->l.V[i+1]?=some y->x.X<y.X
 cov:0<l.c->∀(i:Nat) x,l.V[i]?=some x->x.P<l.c
def pN (c:Int):Bool:=decide (97<=c)&&decide (c<=122)||decide (65<=c)&&decide (c<=90)||decide (c=95)
def wb (c:UInt8):Prop:=pN c.toNat=true\/c=46\/c=39\/(48<=c/\c<=57)
structure Nd (k i:Int)(nm:ByteArray)(ls:List LL)(n:Nat):Prop where
 k0:0<=k
 k1:k<13
 K:(n:Int)=cN k
 i0:0<=i
 i1:i<=65535
 X:k≠0->k≠12->i=0
 chars:∀c∈nm.data.toList,wb c
 short:nm.size<=1000
 N:k≠3->nm=bs []
 lev:(k=2->ls.length=1)/\(k=3->ls.length<=8)/\(k≠2->k≠3->ls=[])
 val:∀l∈ls,VL l
mutual
def TOK:T->Prop
 |.mk k i nm ls a=>Nd k i nm ls a.length/\gO a
def gO:List T->Prop
 |[]=>True
 |t::l=>TOK t/\gO l
end
def dh:∀{l:List T},gO l<->∀t∈l,TOK t
 |[]=>by simp[gO]
 |x::l=>by simp[gO,dh (l:=l)]
def At (ts:List T)(x:Int)(t:T):Prop:=0<=x/\ts[x.toNat]?=some t
def Lk (ts:List T):List Int->List T->Prop
 |[],[]=>True
 |c::l,t::m=>At ts c t/\Lk ts l m
 |_,_=>False
def At.lt {ts:List T}{x:Int}{t:T}(h:At ts x t):0<=x/\x.toNat<ts.length:=⟨h.1,(E_.1 h.2).1⟩
def At.nat {ts:List T}{x:Int}{t:T}(h:At ts x t):∃n:Nat,x=n/\ts[n]?=some t:=⟨x.toNat,by have:=h.1;omega,h.2⟩
def At.of {ts:List T}{n:Nat}{t:T}(h:ts[n]?=some t):At ts (n:Int) t:=⟨o_,by simpa using h⟩
theorem At.app {ts l:List T}{x:Int}{t:T}(h:At ts x t):At (ts++l) x t:=⟨h.1,by rw[List.getElem?_append_left h.lt.2];exact h.2⟩
theorem At.inj {ts:List T}(nd:ts.Nodup){x y:Int}{t:T}(h:At ts x t)(c:At ts y t):x=y:=by
 obtain⟨n,rfl,a⟩:=h.nat;obtain⟨m,rfl,b⟩:=c.nat;have d:=(E_.1 a).1;have:=(List.getElem?_inj d nd).1 (show ts[n]?=ts[m]? by rw[a,b]);rw[this]
def At.det {ts:List T}{x:Int}{t u:T}(h:At ts x t)(a:At ts x u):t=u:=by
 have:=h.2;rw[a.2]at this;exact(Option.some.inj this).symm
theorem Lk.len {ts:List T}: ∀{l:List Int} {m:List T},Lk ts l m->l.length=m.length
 |[],[],_=>rfl
 |_::l,_::m,h=>by simp[Lk.len h.2]
theorem Lk.get {ts:List T}: ∀{l:List Int} {m:List T} {i:Nat} {c:Int},Lk ts l m->l[i]?=some c->∃t,m[i]?=some t/\At ts c t
 |[],_,_,_,_,e=>by simp at e
 |_::l,_::m,0,_,h,e=>by cases e;exact⟨_,rfl,h.1⟩
 |_::l,_::m,i+1,_,h,e=>by simpa using Lk.get (i:=i) h.2 (by simpa using e)
def Lk.get' {ts:List T}: ∀{l:List Int} {m:List T} {i:Nat} {t:T},Lk ts l m->m[i]?=some t->∃c,l[i]?=some c/\At ts c t
 |_,[],_,_,_,e=>by simp at e
 |_::l,_::m,0,_,h,e=>by cases e;exact⟨_,rfl,h.1⟩
 |_::l,_::m,i+1,_,h,e=>by simpa using Lk.get' (i:=i) h.2 (by simpa using e)
theorem Lk.app {ts a:List T}: ∀{l:List Int} {m:List T},Lk ts l m->Lk (ts++a) l m
 |[],[],_=>trivial
 |_::_l,_::_m,h=>⟨h.1.app,Lk.app h.2⟩
def Lk.det {ts:List T}: ∀{l:List Int} {m a:List T},Lk ts l m->Lk ts l a->m=a
 |[],[],[],_,_=>rfl
 |_::l,_::m,_::a,h,b=>by rw[h.1.det b.1,Lk.det h.2 b.2]
theorem Lk.inj {ts:List T}(nd:ts.Nodup):∀{l b:List Int} {m:List T},Lk ts l m->Lk ts b m->l=b
 |[],[],[],_,_=>rfl
 |[],_::_,[],_,a=>a.elim
 |[],_,_::_,h,_=>h.elim
 |_::_,_,[],h,_=>h.elim
 |_::_,[],_::_,_,a=>a.elim
 |_::l,_::b,_::m,h,a=>by rw[h.1.inj nd a.1,Lk.inj nd h.2 a.2]
def Lk.snoc {ts:List T}: ∀{l:List Int} {m:List T} {c:Int} {t:T},Lk ts l m->At ts c t->Lk ts (l++[c]) (m++[t])
 |[],[],_,_,_,a=>⟨a,trivial⟩
 |_::_l,_::_m,_,_,h,a=>⟨h.1,Lk.snoc h.2 a⟩
def Lk.append {ts:List T}: ∀{l b:List Int} {m c:List T},Lk ts l m->Lk ts b c->Lk ts (l++b) (m++c)
 |[],_,[],_,_,a=>a
 |_::_l,_,_::_m,_,h,a=>⟨h.1,Lk.append h.2 a⟩
def Lk.take {ts:List T}: ∀{l:List Int} {m:List T} (i:Nat),Lk ts l m->Lk ts (l.take i) (m.take i)
 |[],[],i,_=>by simp[Lk]
 |_::l,_::m,0,_=>by simp[Lk]
 |_::l,_::m,i+1,h=>⟨h.1,Lk.take i h.2⟩
def Lk.drop {ts:List T}: ∀{l:List Int} {m:List T} (i:Nat),Lk ts l m->Lk ts (l.drop i) (m.drop i)
 |[],[],i,_=>by simp[Lk]
 |_::l,_::m,0,h=>h
 |_::l,_::m,i+1,h=>by simpa using Lk.drop i h.2
def Lk.rev {ts:List T}: ∀{l:List Int} {m:List T},Lk ts l m->Lk ts l.reverse m.reverse
 |[],[],_=>trivial
 |_::l,_::m,h=>by rw[List.reverse_cons,List.reverse_cons];exact(Lk.rev h.2).snoc h.1
def ndT (n:NV)(a:List T):T:=.mk n.D n.X n.N n.L a
structure Wg (M:Ms):Prop where
 len:M.ts.length=M.ns.length
 lenF:M.fr.length=M.ns.length
 most:M.ns.length<=65536
 node:∀(i:Nat) n,M.ns[i]?=some n->∃ks,M.ts[i]?=some (ndT n ks)/\Lk M.ts n.K ks/\∀c∈n.K,c<(i:Int)
 free:∀(i:Nat) t,M.ts[i]?=some t->M.fr[i]?=some (fp t)
 tok:∀t∈M.ts,TOK t
 nd:M.ts.Nodup
structure Le (M M':Ms):Prop where
 ns:∃l,M'.ns=M.ns++l
 ts:∃l,M'.ts=M.ts++l
theorem Le.refl (M:Ms):Le M M:=⟨⟨[],by simp⟩,⟨[],by simp⟩⟩
def Le.trans {M f e:Ms}(x:Le M f)(y:Le f e):Le M e:=by
 have⟨⟨a,i⟩,⟨b,j⟩⟩:=x;have⟨⟨c,g⟩,⟨d,h⟩⟩:=y;exact⟨⟨a++c,by rw[g,i,V_]⟩,⟨b++d,by rw[h,j,V_]⟩⟩
theorem Le.at {M a:Ms}(x:Le M a){i:Int}{t:T}(h:At M.ts i t):At a.ts i t:=by
 have⟨_,⟨_,e⟩⟩:=x;rw[e];exact h.app
theorem Le.lk {M a:Ms}(x:Le M a){l:List Int}{m:List T}(h:Lk M.ts l m):Lk a.ts l m:=by
 have⟨_,⟨_,e⟩⟩:=x;rw[e];exact h.app
def Wg.at_node {M:Ms}(g:Wg M){x:Int}{t:T}(h:At M.ts x t):∃n a,M.ns[x.toNat]?=some n/\t=ndT n a/\Lk M.ts n.K a/\(∀c∈n.K,c<x)/\TOK t/\M.fr[x.toNat]?=some (fp t):=by
 obtain⟨n,rfl,e⟩:=h.nat;have i:n<M.ns.length:=by rw[<-g.len];exact(E_.1 e).1
 have⟨b,f⟩:∃b,M.ns[n]?=some b:=⟨_,a_ i⟩;have⟨a,d,lk,lt⟩:=g.node n b f;rw[e]at d;cases d;exact⟨b,a,by simpa using f,rfl,lk,lt,g.tok _ (m_ e),by simpa using g.free _ _ e⟩
structure NOK (n:NV):Prop where
 nd:Nd n.D n.X n.N n.L n.K.length
 kr:∀c∈n.K,0<=c/\c<65536
def acC:List UInt8->Nat:=λl=>l.foldl (λa c=>a*10+(c.toNat-48)) 0
def decDigits_cases (u:Nat):(u<10/\Lib.decDigits u=[UInt8.ofNat (48+u)])\/(10<=u/\Lib.decDigits u=Lib.decDigits (u / 10)++[UInt8.ofNat (48+u % 10)]):=by
 rw[Lib.decDigits];by_cases h:u<10
 ·rw[dif_pos h];exact .inl ⟨h,rfl⟩
 rw[dif_neg h];exact .inr ⟨o_,rfl⟩
def zM (d:Nat)(h:d<10):(UInt8.ofNat (48+d)).toNat=48+d:=by
 rw[UInt8.toNat_ofNat'];omega
theorem uV (u:Nat):acC (Lib.decDigits u)=u:=by
 induction u using Nat.strongRecOn with
 |_ u b=>
  rcases decDigits_cases u with⟨h,e⟩|⟨h,e⟩
  ·rw[e];show 0*10+((UInt8.ofNat (48+u)).toNat-48)=u;rw[zM u h];omega
  rw[e];have a:=b (u / 10) o_;unfold acC at a ⊢;rw[List.foldl_append,a];show u / 10*10+((UInt8.ofNat (48+u % 10)).toNat-48)=u;rw[zM _ o_];omega
def Ev (u:Nat):∀c∈Lib.decDigits u,48<=c.toNat/\c.toNat<=57:=by
 induction u using Nat.strongRecOn with
 |_ u b=>
  rcases decDigits_cases u with⟨h,e⟩|⟨h,e⟩
  ·rw[e];intro c a;rw[W_]at a;subst a;rw[zM u h];omega
  rw[e];intro c a;rcases List.mem_append.1 a with a|a
  ·exact b _ o_ c a
  rw[W_]at a;subst a;rw[zM _ o_];omega
def aeb (u:Nat):Lib.decDigits u≠[]:=by
 rcases decDigits_cases u with⟨h,e⟩|⟨h,e⟩<;>rw[e]<;>simp
def aac (c:UInt8):Prop:=c.toNat=45\/48<=c.toNat/\c.toNat<=57
def Ar (n:Int):∀c∈Lib.itoa n,aac c:=by
 unfold Lib.itoa;split
 ·intro c a;rcases X_.1 a with rfl|a
  ·exact .inl rfl
  exact .inr (Ev _ c a)
 intro c a;exact .inr (Ev _ c a)
def YN (n:Int):Lib.itoa n≠[]:=by
 unfold Lib.itoa;split
 ·simp
 exact aeb _
def Ti {a b:Int}(h:Lib.itoa a=Lib.itoa b):a=b:=by
 have neg:∀(u:Nat) (l:List UInt8),Lib.decDigits u≠45::l:=λu l e=>by
  have:=Ev u 45 (by rw[e];simp);exact absurd this (by decide)
 unfold Lib.itoa at h;by_cases c:a<0<;>by_cases d:b<0
 ·rw[P_ c,P_ d]at h;injection h with _ h;have:=congrArg acC h;rw[uV,uV]at this;omega
 ·rw[P_ c,N_ d]at h;cases neg _ _ h.symm
 ·rw[N_ c,P_ d]at h;cases neg _ _ h
 rw[N_ c,N_ d]at h;have:=congrArg acC h;rw[uV,uV]at this;omega
def KD {P:UInt8->Prop}: ∀{l m r s:List UInt8},(∀c∈l,P c)->(∀c∈m,P c)->(∀c t,r=c::t->¬P c)->(∀c t,s=c::t->¬P c)->r≠[]->s≠[]->l++r=m++s->l=m/\r=s
 |[],[],_,_,_,_,_,_,_,_,e=>⟨rfl,e⟩
 |[],d::m,r,s,_,hm,g,_,_,_,e=>by
  cases g d _ e (hm d (by simp))
 |c::l,[],r,s,f,_,_,hs,_,_,e=>by
  cases hs c _ e.symm (f c (by simp))
 |c::l,d::m,r,s,f,hm,g,hs,h,i,e=>by
  rw[Q_,Q_]at e;injection e with e1 e2;have⟨a,b⟩:=KD (λx hx=>f x (by simp[hx])) (λx hx=>hm x (by simp[hx])) g hs h i e2;exact⟨by rw[e1,a],b⟩
def td {a b:Int}{r s:List UInt8}(h:Lib.itoa a++32::r=Lib.itoa b++32::s):a=b/\r=s:=by
 have k:∀(c:UInt8) (t u:List UInt8),32::u=c::t->¬aac c:=by
  intro c t u e;injection e with e _;subst e;unfold aac;decide
 have⟨f,d⟩:=KD (Ar a) (Ar b) (λc t=>k c t r) (λc t=>k c t s) (by simp) (by simp) h;injection d with _ d;exact⟨Ti f,d⟩
def JY (l:List UInt8):Prop:=∃c t,l=c::t/\¬aac c
def Cw (a:Int)(r s:List UInt8)(hs:JY s):Lib.itoa a++r≠s:=by
 obtain⟨_,_,rfl,b⟩:=hs;cases hi:Lib.itoa a with
 |nil=>cases YN a hi
 |cons d l=>
  intro e;rw[Q_]at e;injection e with e _;subst e;exact b (Ar a d (by rw[hi];simp))
def Gl:∀{v w:List LV} {r s:List UInt8},JY r->JY s->(v.flatMap λv=>Lib.itoa v.X++32::(Lib.itoa v.P++[32]))++r=(w.flatMap λv=>Lib.itoa v.X++32::(Lib.itoa v.P++[32]))++s->v=w/\r=s
 |[],[],_,_,_,_,e=>⟨rfl,e⟩
 |[],y::w,r,s,a,_,e=>by
  simp only[List.flatMap_nil,List.nil_append,List.flatMap_cons,V_,Q_]at e;cases Cw _ _ _ a e.symm
 |x::v,[],r,s,_,hs,e=>by
  simp only[List.flatMap_nil,List.nil_append,List.flatMap_cons,V_,Q_]at e;cases Cw _ _ _ hs e
 |x::v,y::w,r,s,a,hs,e=>by
  simp only[List.nil_append,List.flatMap_cons,V_,Q_]at e;have⟨_,e⟩:=td e;have⟨_,e⟩:=td e;have⟨c,b⟩:=Gl a hs e;refine⟨?_,b⟩;rw[c];cases x;cases y;simp_all
def Lc {c:UInt8}{l:List UInt8}(h:c=91\/c=124):JY (c::l):=⟨c,l,rfl,by rcases h with rfl|rfl<;>(unfold aac;decide)⟩
def wZ (v:List LL)(r:List UInt8):JY (v.flatMap uf++124::r):=by
 cases v with
 |nil=>exact Lc (.inr rfl)
 |cons x v=>simp only[List.flatMap_cons,uf,Q_];exact Lc (.inl rfl)
def yQ:∀{v w:List LL} {r s:List UInt8},v.flatMap uf++124::r=w.flatMap uf++124::s->v=w/\r=s
 |[],[],_,_,e=>by injection e with _ e;exact⟨rfl,e⟩
 |[],y::w,r,s,e=>by
  simp only[List.flatMap_nil,List.nil_append,List.flatMap_cons,uf,Q_]at e;injection e with e _;exact absurd e (by decide)
 |x::v,[],r,s,e=>by
  simp only[List.flatMap_nil,List.nil_append,List.flatMap_cons,uf,Q_]at e;injection e with e _;exact absurd e (by decide)
 |x::v,y::w,r,s,e=>by
  simp only[List.flatMap_cons,uf,Q_,V_]at e;injection e with _ e;have⟨_,e⟩:=td e;have⟨_,e⟩:=Gl (wZ v r) (wZ w s) e;have⟨b,a⟩:=yQ e;refine⟨?_,a⟩;rw[b];cases x;cases y;simp_all
def Hq:∀{v w:List Int},(v.flatMap λk=>Lib.itoa k++[32])=(w.flatMap λk=>Lib.itoa k++[32])->v=w
 |[],[],_=>rfl
 |[],y::w,e=>by simp at e
 |x::v,[],e=>by simp at e
 |x::v,y::w,e=>by
  simp only[List.flatMap_cons,V_,Q_,List.nil_append]at e;have⟨a,e⟩:=td e;rw[a,Hq e]
def IK {c:UInt8}(h:wb c):c≠91/\c≠124:=by
 refine⟨?_,?_⟩<;>(rintro rfl;revert h;unfold wb pN;decide)
def Te {a b:NV}(l:∀c∈a.N.data.toList,wb c)(m:∀c∈b.N.data.toList,wb c)(h:dN a=dN b):a=b:=by
 unfold dN at h;have⟨i,h⟩:=td h;have⟨d,h⟩:=td h;have k:∀(v:List LL) (r:List UInt8) (c:UInt8) (t:List UInt8),v.flatMap uf++124::r=c::t->¬wb c:=by
  intro v r c t e q;have:=IK q;cases v with
  |nil=>injection e with e _;exact this.2 e.symm
  |cons x v=>simp only[List.flatMap_cons,uf,Q_]at e;injection e with e _;exact this.1 e.symm
 have⟨g,h⟩:=KD l m (λc t=>k _ _ c t) (λc t=>k _ _ c t) (by simp) (by simp) h;have⟨f,h⟩:=yQ h;have j:=Hq h;have⟨_,_,⟨⟨_⟩⟩,_,_⟩:=a;have⟨_,_,⟨⟨_⟩⟩,_,_⟩:=b;simp only at i d g f j;rw[i,d,g,f,j]
def YK {a b:NV}(c:NOK a)(d:NOK b)(h:dN a=dN b):a=b:=Te c.nd.chars d.nd.chars h
theorem Tk (l:List NV)(n:NV):idx (l++[n])=idx l++[(dN n,(l.length:Int))]:=by
 unfold idx;rw[List.zipIdx_append,List.map_append];simp
def lk_idx {n:NV}: ∀{l:List NV},(∀x∈l,dN x=dN n->x=n)->(∃i:Nat,lkg (idx l) (dN n)=some (i:Int)/\l[i]?=some n)\/(lkg (idx l) (dN n)=none/\n ∉ l):=by
 intro l;have b:∀(l:List NV) (k:Nat),(∀x∈l,dN x=dN n->x=n)->(∃i:Nat,lkg ((l.zipIdx k).map λp=>(dN p.1,(p.2:Int))) (dN n)=some ((k+i:Nat):Int)/\l[i]?=some n)\/(lkg ((l.zipIdx k).map λp=>(dN p.1,(p.2:Int))) (dN n)=none/\n ∉ l):=by
  intro l;induction l with
  |nil=>intro k _;exact .inr ⟨rfl,by simp⟩
  |cons x l f=>
   intro k h;rw[List.zipIdx_cons,List.map_cons,lkg];by_cases q:dN n=dN x
   ·rw[P_ q];have:=h x (by simp) q.symm;exact .inl ⟨0,by simp,by simp[this]⟩
   rw[N_ q];rcases f (k+1) (λy d=>h y (by simp[d])) with⟨i,c,a⟩|⟨c,a⟩
   ·exact .inl ⟨i+1,by rw[c];congr 1;omega,by simpa using a⟩
   exact .inr ⟨c,by simp only[X_,not_or];exact⟨λe=>q (by rw[e]),a⟩⟩
 intro h;have:=b l 0 h;simpa [idx] using this
def Wg.nok {M:Ms}(g:Wg M){n:NV}(h:n∈M.ns):NOK n:=by
 have⟨i,hi⟩:=J_ h;have⟨_,e,lk,lt⟩:=g.node i n hi;have d:=g.tok _ (m_ e);unfold ndT TOK at d;have k:=(E_.1 hi).1;have:=g.most;refine⟨by rw[lk.len];exact d.1,λc b=>⟨?_,by have:=lt c b;omega⟩⟩;have⟨_,f⟩:=J_ b;have⟨_,_,a⟩:=lk.get f;exact a.1
theorem Wg.add {M:Ms}(g:Wg M){n:NV}{d:List T}(lk:Lk M.ts n.K d)(s:TOK (ndT n d))(u:n ∉ M.ns)(v:M.ns.length<65536):
  Wg {M with ns:=M.ns++[n],ts:=M.ts++[ndT n d],fr:=M.fr++[fp (ndT n d)]}:=by
 refine⟨by simp[g.len],by simp[g.lenF],by simp;omega,?_,?_,?_,?_⟩
 ·intro i x hx;rcases Nat.lt_or_ge i M.ns.length with h|h
  ·rw[List.getElem?_append_left h]at hx;have⟨l,e,f,lt⟩:=g.node i x hx;exact⟨l,by rw[List.getElem?_append_left (by rw[g.len];exact h)];exact e,f.app,lt⟩
  rw[List.getElem?_append_right h]at hx;have:i-M.ns.length=0:=by
   rcases Nat.eq_zero_or_pos (i-M.ns.length) with q|q
   ·exact q
   rw[S_ (by simp;omega)]at hx;cases hx
  rw[this]at hx;cases hx;have hi:i=M.ns.length:=o_;subst hi;refine⟨d,by rw[<-g.len];simp,lk.app,λc p=>?_⟩;have⟨_,o⟩:=J_ p;have⟨t,_,a⟩:=lk.get o;have:=a.lt;rw[g.len]at this;omega
 ·intro i t hi;rcases Nat.lt_or_ge i M.ts.length with h|h
  ·rw[List.getElem?_append_left h]at hi;rw[List.getElem?_append_left (by rw[g.lenF,<-g.len];exact h)];exact g.free i t hi
  rw[List.getElem?_append_right h]at hi;have:i-M.ts.length=0:=by
   rcases Nat.eq_zero_or_pos (i-M.ts.length) with q|q
   ·exact q
   rw[S_ (by simp;omega)]at hi;cases hi
  rw[this]at hi;cases hi;have hi:i=M.fr.length:=by rw[g.lenF,<-g.len];omega
  subst hi;simp
 ·intro t h;rcases List.mem_append.1 h with h|h
  ·exact g.tok t h
  simp at h;subst h;exact s
 refine List.nodup_append.2 ⟨g.nd,by simp,λa r b m=>?_⟩;simp at m;subst m;rintro rfl;have⟨i,hi⟩:=J_ r;have k:i<M.ns.length:=by rw[<-g.len];exact(E_.1 hi).1
 have⟨x,hx⟩:∃x,M.ns[i]?=some x:=⟨_,a_ k⟩;have⟨_,e,f,_⟩:=g.node i x hx;rw[hi]at e;have e:=Option.some.inj e;unfold ndT at e;injection e with e1 e2 e3 e4 e5;subst e5;have w:=lk.inj g.nd f;apply u;have:n=x:=by cases n;cases x;simp_all
 rw[this];exact m_ hx
def sM (n:NV):(bU n).free=true:=by simp[bU,AV.free,AV.frees,bY jK,bY mA]
theorem ph (n:NV):(bU n).norm=bU n:=by simp[bU,AV.norm,AV.norms,bB iS,bB ik]
def wi (n:NV)(h:AH):cw (bU n) h=(bU n,h):=by rw[bQ (sM n),ph]
instance (n:NV):Can (bU n) (bU n):=⟨wi n⟩
theorem Bx (l:List Int):bJ (l.map AG.bh)=l.map AG.bh:=by
 induction l with
 |nil=>rfl
 |cons x l a=>rw[List.map_cons,cK,a];rfl
theorem lh (k j:Int):0<=bK k j/\bK k j<=1:=by unfold bK;split<;>omega
mutual
def HI:∀t,TOK t->0<=fp t/\fp t<=65536
 |.mk k i nm ls a,h=>by
  unfold TOK at h;unfold fp;have:=h.1.i0;have:=h.1.i1;exact CB k a 0 _ h.2 (by split<;>omega) (by split<;>omega)
def CB (k:Int):∀l (j:Nat) (a:Int),gO l->0<=a->a<=65536->0<=gj k j l a/\gj k j l a<=65536
 |[],_,_,_,c,b=>by unfold gj;exact⟨c,b⟩
 |t::l,j,a,h,c,b=>by
  unfold gO at h;unfold gj;have:=HI t h.1;have:=lh k j;exact CB k l (j+1) _ h.2 o_ o_
end
class KM (K:outParam aN):Prop where
 key:∀n,NOK n->∀h,K (.fn 138 [] []) [bU n] .no h=some (.ret (.str (bs (dN n))),.no,h)
section
variable {K:aN}{A:Ma}{B B1:Nat}{E:AV}{M:Ms}{gN gF:Nat}{h:AH}
def iX {call:aN}{c:List bG}{tm:Tm}{b:Option Nat}{f:FuncId}{h a:AH}{e:AEx}{r:Int}{Q:AV->AH->Prop}(g:e=.normal\/e=.ret)(i:fH c tm a=some [.I r])(hm:HM B B1 h a)(d:Q (.I r) a):
  XQ call c (mD (PM B B1 h Q)) e ⟨tm,⟨[],.no,b,f⟩⟩ a:=oB g i (cv_ (aL _ _ _)) hm d
def abO [RunsM K](k j:Int)(h:AH):cS K (.fn 139 [] []) [.I k,.I j] .no h=some (.ret (.I (bK k j)),.no,h):=by
 obtain⟨v,a,e,rfl,rfl⟩:=aV (a:=[.I k,.I j]) (h:=h) (P:=λv a=>v=.I (bK k j)/\a=h) aeL (by
  repeat' (first|simp only[go_sem, *]|refine pC (λ_=>?_) λ_=>?_|refine qE (λ_=>?_) λ_=>?_|refine pD (λ_=>?_) λ_=>?_|refine tn (λ_=>?_) λ_=>?_|refine pH (λ_=>?_) λ_=>?_|refine tG (λ_=>?_) λ_=>?_)
  all_goals (refine⟨by rfl,by rfl,.inr rfl,[_],y_,_,_,cv_ (aL _ _ _),?_,rfl⟩;simp_all [bK]))
 exact e
def Gq (A:Ma)(B B1:Nat)(E:AV)(M:Ms)(d:AH)(P:Ms->Prop):Prop:=∃a c b,St A B B1 E a c b d/\Wg a/\Le M a/\P a
def Sm (M a:Ms):Prop:=a.w=M.w/\a.n=M.n/\a.con=M.con/\a.vis=M.vis
def I1096 (A:Ma)(H:AH)(b:Nat)(n:NV)(c:List T)(j:Nat)(a:AF)(h:AH):Prop:=∃tm m,m+j=n.K.length/\a=F_ 96 tm/\h=H/\nth tm 0=.P A.a/\nth tm 3=.P b/\nth tm 5=.str (bs (dN n))/\
 nth tm 8=.I (gj n.D 0 (c.take m) (if n.D=0 then n.X+1 else 0))/\nth tm 40=.eI n.K/\nth tm 41=.I (n.K.length:Int)/\nth tm 42=.I (m:Int)
def Vs [RunsM K][km:KM K](s:St A B B1 E M gN gF h)(g:Wg M)(n:NV)(u:List T)(lk:Lk M.ts n.K u)(ht:TOK (ndT n u)):
  Cm K B B1 (96) [] [.P A.a,bU n] h λv h'=>Gq A B B1 E M h' λI=>Sm M I/\(n ∉ M.ns->I={M with ns:=M.ns++[n],ts:=M.ts++[ndT n u],fr:=M.fr++[fp (ndT n u)]})/\∃r,v=.I r/\At I.ts r (ndT n u):=by
 refine iW UZ ?_;have o:NOK n:=by
  unfold ndT TOK at ht;refine⟨by rw[lk.len];exact ht.1,λc hc=>?_⟩;have⟨j,hj⟩:=J_ hc;have⟨t,_,a⟩:=lk.get hj;have:=a.lt;have:=g.len;have:=g.most;omega
 have G:∀h,cS K (.fn 138 [] []) [bU n] .no h=some (.ret (.str (bs (dN n))),.no,h):=λh=>vz (ae (wi _ _) (aH _)) (km.key n o h) (cv_ (rX _ _));have cg:=QY;have cb:=λk j h=>abO k j h;have⟨H,W⟩:∃H:AH,H=h.new (.box [.I n.D,.I n.X,.str n.N,.eL n.L,.eI n.K]):=⟨_,rfl⟩;have b1:=s.b1;have X:=s.ok.rng;have C:St A B B1 E M gN gF H:=by rw[W];exact s.new _
 have hm:HM B B1 h H:=by rw[W];exact(HM.refl h).new _
 have nx:H.z=h.z+1:=by rw[W];exact aB _ _
 have N:H.get h.z=some (.box [.I n.D,.I n.X,.str n.N,.eL n.L,.eI n.K]):=by rw[W,aD]
 have Q:=C.gA;have gI:=C.gI;unfold kj at Q;have a0:n.K.length<=3:=by
  have:=o.nd.K;unfold cN at this;split at this
  ·omega
  split at this
  ·omega
  split at this<;>omega
 have i0:=o.nd.i0;have i1:=o.nd.i1;have hk:=λz ok=>ki (t:=2) AG.bh nV gI (dN n) z ok;have ao:∀z,iq H 2 z true (.map A.kI) (.str (bs (dN n)))=_:=λz=>hk z true;unfold bU at G;simp only[go_sem,bU];rw[<-W];simp only[go_sem,G,Q,ao];rcases lk_idx (n:=n) (l:=M.ns) (λx hx e=>YK (g.nok hx) o e) with⟨i,e1,e2⟩|⟨e1,e2⟩
 ·simp only[go_sem,e1,AG.bh];have⟨_,e3,l2,_⟩:=g.node i n e2;have:=lk.det l2;subst this;exact iX (.inr rfl) k_ hm ⟨M,gN,gF,C,g,Le.refl M,⟨rfl,rfl,rfl,rfl⟩,λq=>absurd (m_ e2) q,_,rfl,At.of e3⟩
 simp only[go_sem,e1,Q];refine aU (λhb=>?_) (λhb=>?_)
 ·simp only[go_sem,cg];exact cP hm
 have hb:M.ns.length<65536:=o_;have fin:∀tm,nth tm 0=.P A.a->nth tm 3=.P h.z->nth tm 5=.str (bs (dN n))->nth tm 8=.I (if n.D=0 then n.X+1 else 0)->
   R_ K [.code vK] (XQ (cS K) QH (mD (PM B B1 h λv h'=>Gq A B B1 E M h' λI=>Sm M I/\(n ∉ M.ns->I={M with ns:=M.ns++[n],ts:=M.ts++[ndT n u],fr:=M.fr++[fp (ndT n u)]})/\∃r,v=.I r/\At I.ts r (ndT n u)))) .normal (F_ 96 tm) H:=by
  intro tm t0 P t5 O;unfold vK;simp only[go_sem,P,N];refine bo (I1096 A H h.z n u) n.K.length o_ ⟨_,0,o_,rfl,rfl,q_ t0,q_ P,q_ t5,by simp only[go_sem,O,gj],k_,k_,y_⟩ ?_;rintro j fr L ⟨tm,p,hp,rfl,rfl,t0,P,t5,O,Y,V,aa⟩;simp only[go_sem,aa,V];refine aU (λac=>?_) (λa1=>?_)
  ·have ac:p<n.K.length:=o_;have w:=a_ ac;have⟨t,et,au⟩:=lk.get w;have⟨cn,ec,J⟩:=au.nat;rw[ec]at w;have ag:cn<M.fr.length:=by rw[g.lenF,<-g.len];exact(E_.1 J).1
   have aj:=g.free cn t J;have hi:=jf (kk:=A.kF) (g:=gF) (sz:=1) ag .i64;have hl:=rO (a:=cn) (x:=AG.bh (fp t)) C.gF (by rw[Bx,List.getElem?_map,aj];rfl);have an:=HI t (g.tok t (m_ J));have hb:=lh n.D p;have hw:=aW (fp t-bK n.D p) o_ o_;have ar:=aP p o_;unfold AG.bh at hl;simp only[go_sem,t0,P,O,Y,aa,w,Q,N,hi,hl,cb,hw,ar];refine⟨j-1,o_,_,p+1,o_,rfl,rfl,q_ t0,q_ P,q_ t5,?_,q_ Y,q_ V,k_⟩;simp only[go_sem];rw[Z_,et,Option.toList_some,xk];congr 2;rw[Y_,Nat.min_eq_left (by rw[<-lk.len];omega)];simp
  have aw:p=n.K.length:=o_;subst aw;rw[lk.len,K_]at O;have⟨n1,n2,n3,n4,n5,n6,n7,n8,n9,Z,ax,ai,al,ak,_⟩:=s.ok.ne;have y:=lS (kf:=kfS) (t:=2) AG.bh nV gI (dN n) (M.ns.length:Int);have y:iR L 2 (.map A.kI) (.str (bs (dN n))) (.I (M.ns.length:Int))=_:=y;rw[Xw _ e1,<-Tk]at y;have⟨D,b⟩:∃D,D=L.set A.kI (.map (mpg kfS AG.bh (idx (M.ns++[n])))):=⟨_,rfl⟩;rw[<-b]at y;have U:=(show D.get A.a=L.get A.a by rw[b,aA n1]).trans Q;have af:=(show D.get h.z=L.get h.z by rw[b,aA o_]).trans N;have av:=(show D.get A.kN=L.get A.kN by rw[b,aA n6.symm]).trans C.gN;have ad:=(show D.get A.kF=L.get A.kF by rw[b,aA n7.symm]).trans C.gF;have ap:=yE (bytes:=80) (z:=zT) (x:=bU n) av (Az _) rfl rfl rfl (by rw[L_];omega) (by decide);rw[L_]at ap;have⟨H2,m⟩:∃H2,H2=D.set A.kN (.row (gN+1) 5 true (bJ (M.ns.map bU++[bU n])) 0):=⟨_,rfl⟩;rw[<-m]at ap;unfold bU at ap;have aq:=(show H2.get A.a=D.get A.a by rw[m,aA n2]).trans U;simp only[go_sem,t0,P,t5,O,Q,y,U,af,ap,aq];have⟨S,d⟩:∃S,S=H2.set A.a (.box [.row A.kN (gN+1) 5 0 (M.ns.length+1),E,.map A.kI,.row A.kF gF 1 0 M.fr.length,.map A.kW,.map A.kM,.map A.kU,.map A.kS,.I M.con,.I M.vis]):=⟨_,rfl⟩;rw[<-d];have ab:S.get A.a=_:=d▸aF _ _ _;have ay:=(show S.get A.kF=D.get A.kF by rw[d,aA n3.symm,m,aA Z.symm]).trans ad;have F:=yE (bytes:=8) (z:=[.I 0]) (x:=AG.bh (fp (ndT n u))) ay (ng _) rfl rfl rfl (by rw[L_,g.lenF];omega) (by decide);rw[L_]at F;have⟨H4,l⟩:∃H4,H4=S.set A.kF (.row (gF+1) 1 false (bJ (M.fr.map AG.bh++[AG.bh (fp (ndT n u))])) 0):=⟨_,rfl⟩;rw[<-l]at F;have e8:AG.bh (fp (ndT n u))=.I (gj n.D 0 u (if n.D=0 then n.X+1 else 0)):=by unfold ndT fp;rfl
  rw[e8]at F;have am:=(show H4.get A.a=S.get A.a by rw[l,aA n3]).trans ab;simp only[go_sem,F,am];have⟨H5,f⟩:∃H5,H5=H4.set A.a (.box [.row A.kN (gN+1) 5 0 (M.ns.length+1),E,.map A.kI,.row A.kF (gF+1) 1 0 (M.fr.length+1),.map A.kW,.map A.kM,.map A.kU,.map A.kS,.I M.con,.I M.vis]):=⟨_,rfl⟩;rw[<-f];have ah:H5.z=L.z:=by rw[f,aE,l,aE,d,aE,m,aE,b,aE]
  have st:St A B B1 E {M with ns:=M.ns++[n],ts:=M.ts++[ndT n u],fr:=M.fr++[fp (ndT n u)]} (gN+1) (gF+1) H5:=by
   refine⟨s.ok,?_,?_,?_,?_,?_,?_,by rw[ah];exact C.b1⟩
   ·rw[f,aF];simp only[kj,H_,List.length_singleton]
   ·rw[f,aA n1.symm,l,aA n7,d,aA n1.symm,m,aA n6,b,aF]
   ·rw[f,aA n2.symm,l,aA Z,d,aA n2.symm,m,aF,List.map_append];rfl
   ·rw[f,aA n3.symm,l,aF,List.map_append];rfl
   ·rw[f,aA n4.symm,l,aA al.symm,d,aA n4.symm,m,aA ax.symm,b,aA n8.symm];exact C.gW
   rw[f,aA n5.symm,l,aA ak.symm,d,aA n5.symm,m,aA ai.symm,b,aA n9.symm];exact C.gM
  have az:HM B B1 h H5:=by
   rw[f,l,d,m,b];exact((((hm.set _ (.inr X.2.1)).set _ (.inr X.2.2.1)).set _ (.inr X.1)).set _ (.inr X.2.2.2.1)).set _ (.inr X.1)
  exact iX (r:=(M.ns.length:Int)) (.inr rfl) k_ az ⟨_,_,_,st,g.add lk ht e2 hb,⟨⟨_,rfl⟩,⟨_,rfl⟩⟩,⟨rfl,rfl,rfl,rfl⟩,λ_=>rfl,_,rfl,At.of (by show(M.ts++[ndT n u])[M.ns.length]?=_;rw[<-g.len];simp)⟩
 simp only[go_sem,N];refine aU (λhk=>?_) (λhk=>?_)
 ·have hw:=aW (n.X+1) o_ o_;simp only[go_sem,N,hw];exact fin _ k_ k_ k_ (by simp only[go_sem,hk,if_true])
 simp only[go_sem];exact fin _ k_ k_ k_ (by simp only[go_sem,hk,if_false])
def FK [RunsM K][l:KM K](s:St A B B1 E M gN gF h)(g:Wg M)(n:NV)(b:List T)(lk:Lk M.ts n.K b)(k:TOK (ndT n b)):
  Cm K B B1 (96) [] [.P A.a,bU n] h λv d=>Gq A B B1 E M d λa=>Sm M a/\∃r,v=.I r/\At a.ts r (ndT n b):=by
 have⟨o,d,e,hm,q⟩:=Vs s g n b lk k;refine⟨o,d,e,hm,?_⟩;rcases q with⟨v,rfl,a,c,f,st,i,le,j,_,r⟩|rfl
 ·exact .inl ⟨v,rfl,a,c,f,st,i,le,j,r⟩
 exact .inr rfl
end
def Pu:∀c∈(bs []).data.toList,wb c:=by simp[bs]
def GZ {k i:Int}{n:Nat}(d:0<=k)(b:k<13)(e:(n:Int)=cN k)(hk:k≠2)(c:k≠3)(a:0<=i)(hi:i<=65535)(hx:k≠0->k≠12->i=0):Nd k i (bs []) [] n:=
 ⟨d,b,e,a,hi,hx,Pu,by decide,g_,g_,g_⟩
def vC {i:Int}(a:0<=i)(b:i<=65535):TOK (.mk 0 i (bs []) [] []):=by
 exact⟨GZ o_ o_ (by decide) o_ o_ a b o_,trivial⟩
def zf {f a:T}(b:TOK f)(c:TOK a):TOK (app f a):=by
 exact⟨GZ o_ o_ (by simp[cN]) o_ o_ o_ o_ o_,b,c,trivial⟩
def ij {f:T}(b:TOK f):∀{l:List T},(∀a∈l,TOK a)->TOK (bA f l):=by
 intro l;induction l generalizing f with
 |nil=>intro _;exact b
 |cons a l c=>intro h;exact c (zf b g_) g_
def CP (k i:Int)(b:AV)(a:List Int)(c:b=.eI a\/a=[]/\b=.nl)(h:AH):cw (.agg [.I k,.I i,.str (bs []),.nl,b]) h=(bU ⟨k,i,bs [],[],a⟩,h):=by
 rcases c with rfl|⟨rfl,rfl⟩
 ·rw[bQ (by simp[AV.free,AV.frees,bY mA])];simp[bU,AV.norm,AV.norms,bB ik]
 grind [bQ,AV.free,AV.frees,bU,AV.norm,AV.norms]
def eQ (l:List Int)(h:AH):cw (.eI l) h=(.eI l,h):=by
 grind [bQ,AV.free,bY,mA,AV.norm,bB,ik]
instance (l:List Int):Can (.eI l) (.eI l):=⟨eQ l⟩
section
variable {K:aN}{A:Ma}{B B1:Nat}{E:AV}{M:Ms}{gN gF:Nat}{h:AH}
def Mc (K:aN)(A:Ma)(B B1:Nat)(E:AV)(f:Nat)(c a:List AV)(M:Ms)(h:AH)(P:Ms->AV->Prop):Prop:=Cm K B B1 f c a h λv b=>Gq A B B1 E M b λd=>P d v
def Px (t:T)(M:Ms)(a:Ms)(v:AV):Prop:=Sm M a/\∃r,v=.I r/\At a.ts r t
def Ga {f:Nat}{c a d:List AV}{Q:AV->AH->Prop}{b:AH}(q:Cm K B B1 f c d b Q)(e0:jB a h=(d,b))(i:jB d b=(d,b))(hm:HM B B1 h b)(j:niM.contains f=false:=by decide):Cm K B B1 f c a h Q:=by
 have⟨o,g,_,_,y⟩:=q;exact⟨o,g,by grind [dJ],g_,y⟩
def c1102 [RunsM K][m:KM K](s:St A B B1 E M gN gF h)(g:Wg M)(i:Int):Mc K A B B1 E (102) [] [.P A.a,.I i] M h λb v=>0<=i/\i<=65535/\Px (.mk 0 i (bs []) [] []) M b v:=by
 refine iW ae8 ?_;have j:=QY;by_cases hi:i<0
 ·simp only[go_sem,hi,j];grind [cP,HM.refl]
 by_cases f:65535<i
 ·simp only[go_sem,hi,f,j];grind [cP,HM.refl]
 have⟨_,_,e,hm,q⟩:=Ga (h:=h) (FK s g ⟨0,i,bs [],[],[]⟩ [] trivial (vC (show 0<=i by omega) (show i<=65535 by omega))) (ae (bS _ _ _ _) (ae (CP 0 i .nl [] g_ h) (aH _))) (ae (bS _ _ _ _) (ae (wi _ _) (aH _))) g_;simp only[go_sem,hi,f];rcases q with⟨v,rfl,b,c,d,st,k,le,l,r,rfl,a⟩|rfl
 ·simp only[go_sem,e];exact iX g_ k_ hm ⟨b,c,d,st,k,le,o_,o_,l,r,rfl,a⟩
 simp only[go_sem,e];grind [cP]
def FM [RunsM K][n:KM K](s:St A B B1 E M gN gF h)(g:Wg M)(k:Int)(b:List Int)(c:List T)(lk:Lk M.ts b c)(m:TOK (.mk k 0 (bs []) [] c)):Mc K A B B1 E (63) [] [.P A.a,.I k,.eI b] M h λd v=>Px (.mk k 0 (bs []) [] c) M d v:=by
 refine iW afx ?_;have⟨_,_,e,hm,q⟩:=Ga (h:=h) (FK s g ⟨k,0,bs [],[],b⟩ c lk m) (ae (bS _ _ _ _) (ae (CP k 0 _ b (.inl rfl) h) (aH _))) (ae (bS _ _ _ _) (ae (wi _ _) (aH _))) g_;simp only[go_sem];rcases q with⟨v,rfl,d,f,i,st,j,le,l,r,rfl,a⟩|rfl
 ·simp only[go_sem,e];exact iX g_ k_ hm ⟨d,f,i,st,j,le,l,r,rfl,a⟩
 simp only[go_sem,e];grind [cP]
end
def rM {d g a b:Nat}{agg:Bool}{h:AH}{out:List AV}{x:AV}(hk:h.get d=some (.row g b agg (bJ out) 0))(ho:∀x∈out,x.cells.length=b)(i:a<out.length)(c:x.cells.length=b)(j:x.lies=true):
  cY (.ptr d g (a*b)) h b x=some (h.set d (.row g b agg (bJ (out.set a x)) 0)):=by
 have f:=lR ho;have e:a*b+b<=out.length*b:=by
  calc a*b+b=(a+1)*b:=by rw[Nat.succ_mul]
   _<=_:=Nat.mul_le_mul i (e_ _)
 rw[jF _ _ _ _ j c,hk,aK];show aI (cond (and (Nat.beq g g) (and (Nat.ble 0 (a*b)) (Nat.ble (a*b+len x.cells) (len (bJ out))))) (some (dF.row g b agg (setR (a*b) x.cells (bJ out)) 0)) none) _=_;rw[fR,bT,bT,fK (show a*b+x.cells.length<=(bJ out).length by rw[f,c];exact e),vf c ho i];rfl
def vP {a d:Nat}{agg:Bool}{h:AH}{V:AV}{out:List AV}(o:Own a d agg h V out)(c:0<out.length):∃b g,V=.row b g d 0 out.length/\h.get b=some (.row g d agg (bJ out) 0)/\b<h.z/\a<=b:=by
 obtain⟨_,⟨_,rfl⟩|⟨b,g,f,j,i,e⟩⟩:=o
 ·simp at c
 exact⟨b,g,f,j,i,e⟩
def mB (l:List Int):∀x∈l.map AG.bh,x.cells.length=1/\x.isAgg=false:=by
 intro x hx;obtain⟨_,_,rfl⟩:=List.mem_map.1 hx;exact⟨rfl,rfl⟩
structure Rv (l cur:List Int)(m:Nat):Prop where
 len:cur.length=l.length
 get:∀i,i<l.length->cur[i]?=if i<m\/l.length<=i+m then l[l.length-1-i]? else l[i]?
theorem Rv.zero (l:List Int):Rv l l 0:=⟨rfl,λi hi=>by rw[N_ o_]⟩
theorem Rv.step {l a:List Int}{m:Nat}(r:Rv l a m)(hm:2*m+1<l.length){x y:Int}(hx:a[m]?=some x)(h:a[l.length-1-m]?=some y):Rv l ((a.set m y).set (l.length-1-m) x) (m+1):=by
 have b:=r.len;refine⟨by simp[b],λi hi=>?_⟩;have g:=r.get m o_;rw[N_ o_,hx]at g;have f:=r.get (l.length-1-m) o_;rw[N_ o_,h]at f;rw[List.getElem?_set,List.getElem?_set];by_cases e:l.length-1-m=i
 ·subst e;rw[P_ rfl,P_ (by simp[b];omega),P_ o_,g];congr 1;omega
 rw[N_ e];by_cases c:m=i
 ·subst c;rw[P_ rfl,P_ o_,P_ o_,f]
 rw[N_ c,r.get i hi];by_cases d:i<m\/l.length<=i+m
 ·rw[P_ d,P_ o_]
 rw[N_ d,N_ o_]
theorem Rv.fin {l a:List Int}{m:Nat}(r:Rv l a m)(hm:l.length<=2*m+1):a=l.reverse:=by
 apply List.ext_getElem?;intro i;rcases Nat.lt_or_ge i l.length with hi|hi
 ·rw[r.get i hi,List.getElem?_reverse hi];by_cases h:i<m\/l.length<=i+m
  ·rw[P_ h]
  rw[N_ h];have:i=l.length-1-i:=o_;rw[<-this]
 rw[S_ (by rw[r.len];exact hi),S_ (by simpa using hi)]
def I1097 (l:List Int)(V:AV)(a:Nat)(c:AH)(j:Nat)(d:AF)(h:AH):Prop:=∃tm m b,m+j=l.length/\d=F_ 97 tm/\
 nth tm 0=V/\nth tm 2=.I (m:Int)/\nth tm 3=.I ((l.length:Int)-1-m)/\Rv l b m/\Own a 1 false h V (b.map AG.bh)/\h.z=c.z/\∀k,k<a->h.get k=c.get k
def abS {K:aN}[RunsM K](l:List Int)(V:AV)(b:Nat)(h:AH)(o:Own b 1 false h V (l.map AG.bh))(Q:l.length<1000000):
  Rt K (97) [V] h λv h'=>v=.tup []/\Own b 1 false h' V (l.reverse.map AG.bh)/\h'.z=h.z/\∀k,k<b->h'.get k=h.get k:=by
 refine af7 afd ?_;simp only[A_];have c:=Mp o;rw[L_]at c;have D:=aW ((l.length:Int)-1) o_ o_;unfold aci;simp only[go_sem,c,D];refine bo (I1097 l V b h) l.length o_ ⟨_,0,l,z_ _,rfl,k_,y_,by simp only[go_sem];omega,Rv.zero l,o,rfl,λ_ _=>rfl⟩ ?_;rintro j P H ⟨tm,p,a,R,rfl,t0,t,u,r,o',A,hk⟩;have C:=r.len;unfold Nn;simp only[go_sem,t,u];refine aU (λf=>?_) (λd=>?_)
 ·have f:2*p+1<l.length:=o_;have⟨e,g,w,q,J,I⟩:=vP o' (by rw[L_];omega);rw[L_,C]at w;subst w;have⟨x,hx⟩:∃x,a[p]?=some x:=⟨_,a_ o_⟩;have⟨y,B⟩:∃y,a[l.length-1-p]?=some y:=⟨_,a_ o_⟩;have G:(l.length:Int)-1-p=((l.length-1-p:Nat):Int):=o_;have i1:=jf (kk:=e) (g:=g) (sz:=1) (n:=l.length) (a:=p) o_ .i64;have O:=jf (kk:=e) (g:=g) (sz:=1) (n:=l.length) (a:=l.length-1-p) o_ .i64;have N:=rO (a:=p) (x:=AG.bh x) q (by rw[Bx,List.getElem?_map,hx];rfl);have E:=rO (a:=l.length-1-p) (x:=AG.bh y) q (by rw[Bx,List.getElem?_map,B];rfl);have s:=rM (x:=AG.bh y) (a:=p) q (ng a) (by rw[L_];omega) rfl rfl;have F:(a.map AG.bh).set p (AG.bh y)=(a.set p y).map AG.bh:=(List.map_set ..).symm;rw[F]at s;have M:(H.set e (.row g 1 false (bJ ((a.set p y).map AG.bh)) 0)).get e=some (.row g 1 false (bJ ((a.set p y).map AG.bh)) 0):=aF _ _ _;have z:=rM (x:=AG.bh x) (a:=l.length-1-p) M (ng _) (by rw[L_,List.length_set];omega) rfl rfl;have L:((a.set p y).map AG.bh).set (l.length-1-p) (AG.bh x)=((a.set p y).set (l.length-1-p) x).map AG.bh:=(List.map_set ..).symm;rw[L]at z;have m:=aP p o_;have n:IntKind.wrap .i64 (((l.length-1-p:Nat):Int)-1)=(l.length:Int)-1-((p+1:Nat):Int):=by rw[aW _ o_ o_];omega
  simp only[go_sem,LM,t0,t,u,G,i1,O,N,E,s,z,m,n];refine⟨j-1,o_,_,p+1,(a.set p y).set (l.length-1-p) x,o_,rfl,by simp only[go_sem, *],by simp only[go_sem, *],by simp only[go_sem, *],r.step f hx B,⟨mB _,.inr ⟨e,g,?_,aF _ _ _,?_,I⟩⟩,?_,?_⟩
  ·simp[C]
  ·rw[aE,aE];exact J
  ·rw[aE,aE];exact A
  intro k i;rw[aA o_,aA o_];exact hk k i
 have d:l.length<=2*p+1:=o_;simp only[go_sem];refine⟨rfl,rfl,.inl rfl,[],rfl,.tup [],H,bF (aH _),rfl,?_,A,hk⟩;rw[<-r.fin d];exact o'
section
variable {K:aN}{A:Ma}{B B1:Nat}{E:AV}{M:Ms}{gN gF:Nat}{h:AH}
def Wg.atok {M:Ms}(g:Wg M){x:Int}{t:T}(h:At M.ts x t):TOK t:=by have⟨_,_,_,_,_,_,q,_⟩:=g.at_node h;exact q
structure Gs (A:Ma)(B B1:Nat)(E:AV)(M:Ms)(h0 h:AH)(M':Ms)(gN gF:Nat):Prop where
 st:St A B B1 E M' gN gF h
 g:Wg M'
 le:Le M M'
 hm:HM B B1 h0 h
theorem Sm.refl (M:Ms):Sm M M:=⟨rfl,rfl,rfl,rfl⟩
def Sm.trans {a b c:Ms}(x:Sm a b)(y:Sm b c):Sm a c:=⟨y.1.trans x.1,y.2.1.trans x.2.1,y.2.2.1.trans x.2.2.1,y.2.2.2.trans x.2.2.2⟩
def I1067 (A:Ma)(B B1:Nat)(E:AV)(M:Ms)(d:AH)(f:T)(a:List Int)(ts:List T)(j:Nat)(c:AF)(h:AH):Prop:=∃tm m b gN gF r,m+j=a.length/\c=F_ 67 tm/\Gs A B B1 E M d h b gN gF/\Sm M b/\
 nth tm 0=.P A.a/\nth tm 1=.I r/\At b.ts r (bA f (ts.take m))/\nth tm 9=.eI a/\nth tm 10=.I (a.length:Int)/\nth tm 11=.I (m:Int)
theorem uI (f:T)(l:List T)(a:T):bA f (l++[a])=.mk 4 0 (bs []) [] [bA f l,a]:=lL f l a
def EM (x y:Int)(h:AH):cw (.clip [.I x,.I y]) h=(.ls ([x,y].map AG.bh),h):=by
 rw[bQ (by simp[AV.free,AV.frees])];simp[AV.norm,AV.norms,AG.bh]
def abX [RunsM K][X:KM K](s:St A B B1 E M gN gF h)(g:Wg M)(x:Int)(f:T)(hx:At M.ts x f)(a:List Int)(ts:List T)(lk:Lk M.ts a ts)(W:a.length<10000000000):
  Mc K A B B1 E (67) [] [.P A.a,.I x,.eI a] M h λy v=>Px (bA f ts) M y v:=by
 refine iW aft ?_;simp only[go_sem];refine bo (I1067 A B B1 E M h f a ts) a.length o_ ⟨_,0,M,gN,gF,x,o_,rfl,⟨s,g,Le.refl M,HM.refl h⟩,Sm.refl M,k_,k_,by simpa [bA] using hx,k_,k_,y_⟩ ?_;rintro j V H ⟨tm,p,y,C,G,r,Y,rfl,⟨st,n,le,hm⟩,L,t0,J,m,I,c,d⟩;simp only[go_sem,c,d];refine aU (λk=>?_) (λO=>?_)
 ·have k:p<a.length:=o_;have b:=a_ k;have⟨t,R,i⟩:=lk.get b;have U:=aP p o_;have tk:=zf (n.atok m) (n.atok (le.at i));have⟨_,_,e,l,q⟩:=Ga (h:=H) (FM st n 4 [r,a[p]] [bA f (ts.take p),t] ⟨m,le.at i,trivial⟩ tk) (ae (bS _ _ _ _) (ae (aL _ _ _) (ae (EM r a[p] H) (aH _)))) (ae (bS _ _ _ _) (ae (aL _ _ _) (ae (eQ _ _) (aH _)))) (HM.refl H);simp only[go_sem,t0,J,I,d,b];rcases q with⟨v,rfl,N,w,u,z,Q,F,D,S,rfl,P⟩|rfl
  ·simp only[go_sem,e,d,U];refine⟨j-1,o_,_,p+1,N,w,u,S,o_,rfl,⟨z,Q,le.trans F,hm.trans l⟩,L.trans D,q_ t0,k_,?_,q_ I,q_ c,k_⟩;rw[Z_,R,Option.toList_some,uI];exact P
  simp only[go_sem,e];exact cP (hm.trans l)
 have:p=a.length:=o_;subst this;rw[lk.len,K_]at m;simp only[go_sem,J];exact iX (.inr rfl) k_ hm ⟨y,C,G,st,n,le,L,r,rfl,m⟩
end
def uZ {a:Nat}{h:AH}{V:AV}{l:List Int}(o:Own a 1 false h V (l.map AG.bh)):∃h',cw V h=(.eI l,h')/\h'.z=h.z/\∀k,k<a->h'.get k=h.get k:=by
 rcases iT o (λ_=>rfl) with⟨rfl,e,_⟩|⟨k,g,c,b,i,d⟩
 ·rw[List.map_eq_nil_iff]at e;subst e;exact⟨h,dL h,rfl,λ_ _=>rfl⟩
 refine⟨h.set k (.row g 1 false (bJ (l.map AG.bh)) ((l.map AG.bh).length*1)),?_,aE _ _ _,λf hk=>aA o_⟩;have:nI V h=dM V h:=by rw[c];rfl
 rw[cw,this,b];show(AV.ls (AV.norms _),_)=_;rw[bB ik]
section
variable {K:aN}{A:Ma}{B B1:Nat}{E:AV}{M:Ms}{gN gF:Nat}{h:AH}
structure Cell (A:Ma)(gN:Nat)(h:AH)(n:Nat)(nv:NV):Prop where
 l0:cC (.ptr A.kN gN (n*5)) h false 1=some (.I nv.D)
 l1:cC (.ptr A.kN gN (n*5+1)) h false 1=some (.I nv.X)
 l2:cC (.ptr A.kN gN (n*5+2)) h false 1=some (.str nv.N)
 l3:cC (.ptr A.kN gN (n*5+3)) h false 1=some (.eL nv.L)
 l4:cC (.ptr A.kN gN (n*5+4)) h false 1=some (.eI nv.K)
 l5:cC (.ptr A.kN gN (n*5)) h true 5=some (bU nv)
theorem St.cell (s:St A B B1 E M gN gF h){n:Nat}{a:NV}(c:M.ns[n]?=some a):Cell A gN h n a:=by
 have b:(M.ns.map bU)[n]?=some (bU a):=by rw[List.getElem?_map,c];rfl
 have l:=λi y hi=>Sd (i:=i) (y:=y) s.gN (Az _) b hi;exact⟨l 0 _ rfl,l 1 _ rfl,l 2 _ rfl,l 3 _ rfl,l 4 _ rfl,Mk s.gN (Az _) rfl b⟩
def St.addr (_s:St A B B1 E M gN gF h){n:Nat}(a:n<M.ns.length):bW (.row A.kN gN 5 0 M.ns.length) 5 (.I (n:Int))=some (.ptr A.kN gN (n*5)):=jf a .i64
def I1060 (A:Ma)(M:Ms)(b:AH)(x:Int)(t:T)(j:Nat)(d:AF)(h:AH):Prop:=∃tm c V a out,d=F_ 60 tm/\HK b h/\nth tm 0=.P A.a/\nth tm 1=.I (j:Int)/\nth tm 6=V/\
 At M.ts (j:Int) c/\Lk M.ts a out/\Own b.z 1 false h V (a.map AG.bh)/\aT t=((aT c).1,(aT c).2++out.reverse)/\(a.length:Int)+j<=x
def JW [RunsM K](s:St A B B1 E M gN gF h)(g:Wg M)(x:Int)(t:T)(hx:At M.ts x t):
  Ret K (60) [.P A.a,.I x] h λv _=>∃r y,v=.tup [.I r,.eI y]/\At M.ts r (aT t).1/\Lk M.ts y (aT t).2/\y.length<=65536:=by
 refine aV afA ?_;obtain⟨xn,rfl,ex⟩:=hx.nat;have ab:xn<M.ns.length:=by rw[<-g.len];exact(E_.1 ex).1
 have J:=g.most;simp only[go_sem];refine bo (I1060 A M h xn t) xn o_ ⟨_,t,.nl,[],[],rfl,HK.refl h,k_,k_,k_,hx,trivial,cV _ _ _ _,by simp,by simp⟩ ?_;rintro j fr H ⟨tm,c,V,X,out,rfl,hk,t0,I,Z,Y,lk,o,G,ag⟩;have st:=s.hk hk;obtain⟨l,ks,z,rfl,p,U,_,_⟩:=g.at_node Y;have z:M.ns[j]?=some l:=by simpa using z
 have hj:=(E_.1 z).1;have cl:=st.cell z;have ad:=st.addr hj;have S:=st.gA;have l0:=cl.l0;have N:=cl.l4;unfold kj at S;simp only[go_sem,t0,I,S,ad,l0];refine aU (λi=>?_) (λi=>?_)
 ·have u:l.K.length=2:=by
   have:=(g.nok (m_ z)).nd.K;rw[i]at this;have:((l.K.length:Nat):Int)=2:=by simpa [cN] using this
   omega
  match w:l.K,ks,p,u with
  |[b,m],[f,a],p,_=>
   rw[w]at N;have⟨af,aa,_⟩:=p;have i1:bW (.ls [.I b,.I m]) 1 (.I 1)=some (.vp (.I m)):=aR (f:=AG.bh) (sz:=1) (λ_=>rfl) (show[b,m][1]?=some m from rfl) .i64;have i0:bW (.ls [.I b,.I m]) 1 (.I 0)=some (.vp (.I b)):=aR (f:=AG.bh) (sz:=1) (λ_=>rfl) (show[b,m][0]?=some b from rfl) .i64;have⟨V',H2,ea,o',O,P,_⟩:=eY (AG.bh m) o;have d:HK h H2:=⟨C_ hk.z O,λk q=>(P k q).trans (hk.kw k q)⟩;have D:=s.hk d;have F:=D.gA;have n:=(D.cell z).l4;rw[w]at n;unfold kj at F;have C:((b.toNat:Nat):Int)=b:=by have:=af.1;omega
   have ah:b<j:=U b (by rw[w];simp);simp only[AV.eI,AG.bh,List.map_cons,List.map_nil]at ea n N;simp only[go_sem,t0,I,Z,S,ad,N,i1,ea,F,n,i0];refine⟨b.toNat,o_,_,f,V',X++[m],out++[a],rfl,d,q_ t0,q_ C,k_,by rw[C];exact af,lk.snoc aa,?_,?_,by simp;omega⟩
   ·rw[List.map_append];exact o'
   rw[G];have:ndT l [f,a]=.mk 4 l.X l.N l.L [f,a]:=by unfold ndT;rw[i]
   rw[this,iE];simp
 have hd:Hd (ndT l ks):=λe=>absurd e (by unfold ndT;exact i);rw[mw hd,List.nil_append]at G;obtain⟨_,_,e,rfl,o2,Q,d⟩:=abS X V h.z H o o_;have⟨H3,ec,W,L⟩:=uZ o2;have R:HK h H3:=⟨by rw[W,Q];exact hk.z,λk q=>(L k q).trans ((d k q).trans (hk.kw k q))⟩;simp only[go_sem,Z,e,I];refine⟨rfl,rfl,.inr rfl,[_,_],k_,.tup [.I (j:Int),.eI X.reverse],H3,bF (ae (aL _ _ _) (ae ec (aH _))),⟨_,_,rfl,?_,?_,by rw[List.length_reverse];omega⟩,R⟩
 ·rw[G];exact Y
 rw[G];exact lk.rev
end
mutual
def rpT (F:Int->Int->T):T->Int->T
 |.mk k i nm ls a,d=>if k=0 then (if i<d then .mk k i nm ls a else F (i-d) d) else .mk k i nm ls (uL F k 0 a d)
def uL (F:Int->Int->T)(k:Int):Nat->List T->Int->List T
 |_,[],_=>[]
 |j,t::l,d=>rpT F t (d+bK k j)::uL F k (j+1) l d
end
section
variable {F:Int->Int->T}
theorem Af (k:Int):∀(a:List T) (j:Nat) (d:Int),(uL F k j a d).length=a.length
 |[],_,_=>rfl
 |t::l,j,d=>by simp[uL,Af k l (j+1) d]
theorem GK (k:Int):∀(b:List T) (j:Nat) (d:Int) (a:Nat),(uL F k j b d)[a]?=(b[a]?).map λt=>rpT F t (d+bK k ((j+a:Nat):Int))
 |[],_,_,_=>by simp[uL]
 |t::l,j,d,0=>by simp[uL]
 |t::l,j,d,a+1=>by
  have c:=GK k l (j+1) d a;simp only[uL,List.getElem?_cons_succ,c];rw[show j+1+a=j+(a+1) by omega]
def Oq (k:Int)(b:List T)(d:Int)(a:Nat)(t:T)(h:b[a]?=some t):(uL F k 0 b d).take (a+1)=(uL F k 0 b d).take a++[rpT F t (d+bK k a)]:=by
 rw[Z_,GK,h,z_];rfl
def oZ (k:Int):∀(l:List T) (j:Nat) (a:Int),a<=gj k j l a
 |[],_,_=>by unfold gj;omega
 |t::l,j,a=>by
  unfold gj;have:=oZ k l (j+1) (max a (fp t-bK k j));omega
mutual
def Cc:∀(t:T) (d:Int),fp t<=d->rpT F t d=t
 |.mk k i nm ls a,d,h=>by
  unfold fp at h;unfold rpT;by_cases hk:k=0
  ·rw[P_ hk]at h ⊢;have:=oZ k a 0 (i+1);rw[P_ o_]
  rw[N_ hk,yD k a 0 _ d h]
def yD (k:Int):∀(l:List T) (j:Nat) (a d:Int),gj k j l a<=d->uL F k j l d=l
 |[],_,_,_,_=>rfl
 |t::l,j,a,d,h=>by
  unfold gj at h;unfold uL;have:=oZ k l (j+1) (max a (fp t-bK k j));rw[Cc t _ o_,yD k l (j+1) _ d h]
end
end
def Fl (a:Int)(i d:Int):T:=.mk 0 (i+d+a) (bs []) [] []
mutual
theorem GJ (b:Int):∀(t:T) (d:Int),rpT (Fl b) t d=cZ b t d
 |.mk k i nm ls a,d=>by
  unfold rpT cZ;by_cases hk:k=0
  ·rw[P_ hk,P_ hk];by_cases hi:i<d
   ·rw[P_ hi,P_ hi]
   rw[N_ hi,N_ hi];unfold Fl;rw[show i-d+d+b=i+b by omega]
  rw[N_ hk,N_ hk,Cb b k a 0 d]
theorem Cb (b k:Int):∀(l:List T) (j:Nat) (d:Int),uL (Fl b) k j l d=fB b k j l d
 |[],_,_=>rfl
 |t::l,j,d=>by unfold uL fB;rw[GJ b t _,Cb b k l (j+1) d]
end
def Fp (a:List T)(i d:Int):T:=match a[i.toNat]? with
 |some x=>cZ d x 0
 |none=>.mk 0 (i-a.length+d) (bs []) [] []
mutual
theorem GI (a:List T):∀(t:T) (d:Int),rpT (Fp a) t d=fM a t d
 |.mk k i nm ls b,d=>by
  unfold rpT fM;by_cases hk:k=0
  ·rw[P_ hk,P_ hk];by_cases hi:i<d
   ·rw[P_ hi,N_ o_]
   rw[N_ hi,P_ o_];unfold Fp;cases a[(i-d).toNat]? with
   |some x=>rfl
   |none=>simp only;rw[show i-d-a.length+d=i-a.length by omega]
  rw[N_ hk,N_ hk,Ca a k b 0 d]
theorem Ca (a:List T)(k:Int):∀(l:List T) (j:Nat) (d:Int),uL (Fp a) k j l d=iO a k j l d
 |[],_,_=>rfl
 |t::l,j,d=>by unfold uL iO;rw[GI a t _,Ca a k l (j+1) d]
end
structure Ct (M:Ms):Prop where
 v0:0<=M.vis
 v1:M.vis<=4000000
 c0:0<=M.con
 c1:M.con<=20000
structure Sv (M M':Ms):Prop where
 w:M'.w=M.w
 n:M'.n=M.n
 con:M'.con=M.con
 vis:M.vis<=M'.vis
 le:M'.vis<=4000000
theorem Sm.v {M a:Ms}(s:Sm M a)(c:Ct M):Sv M a:=⟨s.1,s.2.1,s.2.2.1,by have:=s.2.2.2;omega,by have:=s.2.2.2;have:=c.v1;omega⟩
theorem Sv.refl {M:Ms}(c:Ct M):Sv M M:=⟨rfl,rfl,rfl,Int.le_refl _,c.v1⟩
def Sv.trans {a b c:Ms}(x:Sv a b)(y:Sv b c):Sv a c:=⟨y.w.trans x.w,y.n.trans x.n,y.con.trans x.con,Int.le_trans x.vis y.vis,y.le⟩
def Sv.ct {M a:Ms}(s:Sv M a)(c:Ct M):Ct a:=⟨Int.le_trans c.v0 s.vis,s.le,by rw[s.con];exact c.c0,by rw[s.con];exact c.c1⟩
def Sn (F:Int->Int->T)(q:Bool)(M:Ms)(a:List ((Int×Int)×Int)):Prop:=∀e∈a,∃t,At M.ts e.1.1 t/\At M.ts e.2 (rpT F t e.1.2)/\(occ t e.1.2=true->q=true)
def Sn.up {F:Int->Int->T}{q:Bool}{M d:Ms}{f:List ((Int×Int)×Int)}(s:Sn F q M f)(le:Le M d):Sn F q d f:=λe g=>by
 have⟨t,a,b,c⟩:=s e g;exact⟨t,le.at a,le.at b,c⟩
def Sn.or {F:Int->Int->T}{q:Bool}{M:Ms}{d:List ((Int×Int)×Int)}(s:Sn F q M d)(x:Bool):Sn F (q||x) M d:=λe f=>by
 have⟨t,a,b,c⟩:=s e f;exact⟨t,a,b,λw=>by rw[c w];rfl⟩
theorem Sn.add {F:Int->Int->T}{q:Bool}{M:Ms}{g:List ((Int×Int)×Int)}(s:Sn F q M g){i d o:Int}{t:T}(a:At M.ts i t)(b:At M.ts o (rpT F t d))(c:occ t d=true->q=true):Sn F q M (stg g (i,d) o):=λe f=>by
 rcases stg_mem f with rfl|f
 ·exact⟨t,a,b,c⟩
 exact s e f
mutual
def yK:∀(t:T) (d:Int),fp t<=d->occ t d=false
 |.mk k i nm ls a,d,h=>by
  unfold fp at h;unfold occ;by_cases hk:k=0
  ·rw[P_ hk]at h ⊢;have:=oZ k a 0 (i+1);exact d_
  rw[N_ hk]at h ⊢;exact wX k a 0 _ d h
def wX (k:Int):∀(l:List T) (j:Nat) (a d:Int),gj k j l a<=d->ue k j l d=false
 |[],_,_,_,_=>rfl
 |t::l,j,a,d,h=>by
  unfold gj at h;unfold ue;have:=oZ k l (j+1) (max a (fp t-bK k j));rw[yK t _ o_,wX k l (j+1) _ d h];rfl
end
theorem Cj (k:Int)(t:T)(d:Int):∀(l:List T) (j:Nat),ue k j (l++[t]) d=(ue k j l d||occ t (d+bK k ((j+l.length:Nat):Int)))
 |[],j=>by simp[ue]
 |x::l,j=>by
  have a:=Cj k t d l (j+1);simp only[Q_,ue,a,Bool.or_assoc,M_];rw[show j+1+l.length=j+(l.length+1) by omega]
def OI (k:Int)(b:List T)(d:Int)(a:Nat)(t:T)(h:b[a]?=some t):ue k 0 (b.take (a+1)) d=(ue k 0 (b.take a) d||occ t (d+bK k a)):=by
 have c:=(E_.1 h).1;rw[Z_,h];show ue k 0 (b.take a++[t]) d=_;rw[Cj,Y_,Nat.min_eq_left o_,z_]
structure Cl (A:Ma)(fv:AV)(cM cS cF cW kS:Nat)(sn:List ((Int×Int)×Int))(h:AH):Prop where
 gM:h.get cM=some (.box [.P A.a])
 gS:h.get cS=some (.box [.map kS])
 gF:h.get cF=some (.box [fv])
 gW:h.get cW=some (.box [.fn (140) [] [.P cM,.P cS,.P cF,.P cW]])
 mS:h.get kS=some (.map (mpg Ql AG.bh sn))
structure HX (B B1:Nat)(X:Nat->Prop)(h h':AH):Prop where
 z:h.z<=h'.z
 kw:∀k,k<h.z->k<B\/B1<=k\/k=B+4\/k=B+5->¬X k->h'.get k=h.get k
section
variable {B B1:Nat}{X:Nat->Prop}{h h' h'':AH}
theorem HX.refl (h:AH):HX B B1 X h h:=⟨e_ _,λ_ _ _ _=>rfl⟩
theorem HX.trans (x:HX B B1 X h h')(y:HX B B1 X h' h''):HX B B1 X h h'':=⟨C_ x.z y.z,λk hk q n=>(y.kw k (B_ hk x.z) q n).trans (x.kw k hk q n)⟩
def HX.le {Y:Nat->Prop}(x:HX B B1 X h h')(q:∀k,X k->Y k):HX B B1 Y h h':=⟨x.z,λk hk r n=>x.kw k hk r (λw=>n (q k w))⟩
theorem HM.x (x:HM B B1 h h'):HX B B1 X h h':=⟨x.z,λk hk q _=>x.kw k hk q⟩
def HX.set (x:HX B B1 X h h'){k:Nat}(o:dF)(hk:h.z<=k\/X k):HX B B1 X h (h'.set k o):=
 ⟨by rw[aE];exact x.z,λj a q n=>by rw[aA (by rintro rfl;exact hk.elim (λw=>absurd a o_) n)];exact x.kw j a q n⟩
theorem HX.new (x:HX B B1 X h h')(o:dF):HX B B1 X h (h'.new o):=x.trans (HK.new _ _).m.x
theorem HX.gu (x:HX B B1 X h h'){k:Nat}{o:dF}(g:h.get k=some o)(hk:k<h.z)(a:k<B\/B1<=k)(hx:¬X k):h'.get k=some o:=(x.kw k hk o_ hx).trans g
theorem HX.tm (x:HX B B1 X h h')(y:HM B B1 h' h''):HX B B1 X h h'':=x.trans y.x
theorem HM.tx (x:HM B B1 h h')(y:HX B B1 X h' h''):HX B B1 X h h'':=x.x.trans y
theorem HX.tk (x:HX B B1 X h h')(y:HK h' h''):HX B B1 X h h'':=x.trans y.m.x
attribute [grind ->] HX.z HX.trans HX.tm HM.tx HX.tk
attribute [grind =>] HX.gu
end
def KO (a:Nat)(O:Nat->Prop)(k:Nat):Prop:=k=a\/O k
