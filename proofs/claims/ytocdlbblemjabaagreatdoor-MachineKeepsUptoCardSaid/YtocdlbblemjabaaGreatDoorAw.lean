/- MachineKeeps: the compiled code of the functions that it reaches (printed by a program of ours out of the evaluator's compiler; no condition). -/
import Derived.Test.YtocdlbblemjabaaGreatDoorProg
import Derived.Test.YtocdlbblemjabaaGreatDoorAt
import Derived.Test.YtocdlbblemjabaaGreatDoorAv
import Derived.KernelRfl
namespace Go.Proofs.YtocdlbblemjabaaGreatDoor
open Go.AG Go.AG.MK
theorem r_{p:Prop}(h:p:=by kernel_rfl):p:=h
abbrev oq (d:Nat)(x:AOp):aV:=⟨some d,x,none⟩
abbrev og (d:Nat)(x:AOp)(g:Nat)(b:Bool):aV:=⟨some d,x,some (g,b)⟩
abbrev zT:List AV:=[i_ 0,i_ 0,.str (bs []),.nl,.nl]
abbrev xn (v:Int):AX:=.c (i_ v)
abbrev xm (s:Nat):AOp:=.mv (.t s)
abbrev xf (a p:Nat):AOp:=.faddr a 1 false (.t p)
abbrev xl (p:Nat):AOp:=.load false 1 (.t p)
abbrev xL (n p:Nat):AOp:=.load true n (.t p)
abbrev xe (p:Nat):AOp:=.builtin (.len 1) [.t p]
abbrev xx (n a b:Nat):AOp:=.iaddr n (.t a) (.t b)
abbrev xc (f:Nat)(l:List AX):AOp:=.call (.c (.fn f [] [])) l
abbrev qm (d s:Nat):aV:=⟨some d,.mv (.t s),none⟩
abbrev qf (d a p:Nat):aV:=⟨some d,.faddr a 1 false (.t p),none⟩
abbrev ql (d p:Nat):aV:=⟨some d,.load false 1 (.t p),none⟩
abbrev qL (d n p:Nat):aV:=⟨some d,.load true n (.t p),none⟩
abbrev qe (d p:Nat):aV:=⟨some d,.builtin (.len 1) [.t p],none⟩
abbrev qx (d n a b:Nat):aV:=⟨some d,.iaddr n (.t a) (.t b),none⟩
abbrev qc (d f:Nat)(l:List AX):aV:=⟨some d,.call (.c (.fn f [] [])) l,none⟩
abbrev qi (d:Nat)(v:Int):aV:=⟨some d,.mv (.c (i_ v)),none⟩
abbrev qb (d:Nat)(v:Bool):aV:=⟨some d,.mv (.c (.bool v)),none⟩
abbrev qa (d p:Nat)(v:Int):aV:=⟨some d,.bin .add .num (.t p) (.c (i_ v)),none⟩
abbrev qlt (d a b:Nat):aV:=⟨some d,.bin .lss .num (.t a) (.t b),none⟩
abbrev qo (d a b:Nat):aV:=⟨some d,.pick (.t a) (.c (.bool true)) (.t b),none⟩
abbrev qd (d a b:Nat):aV:=⟨some d,.pick (.t a) (.t b) (.c (.bool false)),none⟩
abbrev qz (d:Nat):aV:=⟨some d,.new zT,none⟩
abbrev qs (n a b:Nat):aV:=⟨none,.store n (.t a) (.t b),none⟩
abbrev sr (l:List aV)(c:aF):aF:=.seq (.region l) c
abbrev dq (o:aV)(a b:Nat)(c:Bool):aV×DI:=(o,⟨a,b,c⟩)
def aaX (_:Nat):Bool:=false
noncomputable section
def EG:AG.Env:=afu Tryz.prog aaX (fun _=>false)
set_option maxRecDepth 100000
set_option maxHeartbeats 0
def c_ (f:Nat):aF:=match EG.cf f with|some x=>x.body|_=>.skip
def p_:Nat->aF->List aF
|m,.seq a b=>p_ 0 a++p_ (if m=0 then 0 else 2) b++if m=2 then [.seq a b] else []
|_,.cond _ a b=>p_ 0 a++p_ 0 b
|_,.block _ a=>p_ 1 a
|_,.loop a=>p_ 1 a++[a]
|_,.scope a=>p_ 0 a
|_,.rangeFunc _ _ a b=>p_ 0 a++[a]++p_ 1 b++[b]
|_,_=>[]
def f_:Nat->aF->List aF->(aF->List aF->aF)->aF
|m,.seq a b,l,k=>f_ 0 a l fun a l=>if m=0 then f_ 0 b l fun b=>k (.seq a b) else match b with
 |.seq _ _=>match l with
  |c::l=>k (.seq a c) l
  |_=>.skip
 |b=>f_ 0 b l fun b=>k (.seq a b)
|_,.cond x a b,l,k=>f_ 0 a l fun a l=>f_ 0 b l fun b=>k (.cond x a b)
|_,.block i a,l,k=>f_ 1 a l fun a=>k (.block i a)
|_,.loop _,c::l,k=>k (.loop c) l
|_,.scope a,l,k=>f_ 0 a l fun a=>k (.scope a)
|_,c,l,k=>k c l
def g_ (c:aF)(k:Nat)(l:List aF):aF:=match (p_ 1 c++[c])[k]? with|some x=>f_ 1 x l fun x _=>x|_=>.skip
theorem b_:ByteArray.mk (Array.mk [])=bs []:=rfl
abbrev v_ (x:aF){y:aF}(_:y=x:=by conv=>rhs;reduce;try simp only[simprocAttr,b_]):aF:=y
abbrev u0 (c:aF)(k:Nat){y:aF}(_:y=g_ c k []:=by conv=>rhs;reduce;try simp only[simprocAttr,b_]):=y
abbrev u1 (c:aF)(k:Nat)(b:aF){y:aF->aF}(_:y=fun b=>g_ c k [b]:=by conv=>rhs;reduce;try simp only[simprocAttr,b_]):=y b
abbrev u2 (c:aF)(k:Nat)(b d:aF){y:aF->aF->aF}(_:y=fun b d=>g_ c k [b,d]:=by conv=>rhs;reduce;try simp only[simprocAttr,b_]):=y b d
abbrev u3 (c:aF)(k:Nat)(b d e:aF){y:aF->aF->aF->aF}(_:y=fun b d e=>g_ c k [b,d,e]:=by conv=>rhs;reduce;try simp only[simprocAttr,b_]):=y b d e
def A_7:=v_ (c_ 7)
def Bc:=u0 A_7 0
def Bb:=u1 A_7 1 Bc
def Ba:=u1 A_7 2 Bb
def vJ:=u1 A_7 3 Ba
def vI:=u1 A_7 4 vJ
def vH:=u1 A_7 5 vI
def On:=u1 A_7 6 vH
def Qu:=u1 A_7 7 On
def Om:=u0 A_7 8
def Ol:=u2 A_7 9 Qu Om
def Ej:=u1 A_7 10 Ol
def Ei:=u1 A_7 11 Ej
def aba:=u1 A_7 12 Ei
def TH:List bK:=[(.tmp 2)]
theorem aj9:EG.cf 7=some ⟨85,TH,aba⟩:=r_
def A_8:=v_ (c_ 8)
def Oj:=u0 A_8 0
def Oi:=u1 A_8 1 Oj
def Oh:=u1 A_8 2 Oi
def Og:=u1 A_8 3 Oh
def Qt:=u1 A_8 4 Og
def Of:=u0 A_8 5
def Oe:=u2 A_8 6 Qt Of
def Od:=u1 A_8 7 Oe
def Oc:=u1 A_8 8 Od
def Ob:=u1 A_8 9 Oc
def ahk:=u1 A_8 10 Ob
def Hg:List bK:=[(.cell 2 true 1),(.tmp 3),(.tmp 4)]
theorem aj8:EG.cf 8=some ⟨68,Hg,ahk⟩:=r_
def A_13:=v_ (c_ 13)
def aeF:=u0 A_13 0
def afY:=u1 A_13 1 aeF
def aeE:=u0 A_13 2
def aeD:=u2 A_13 3 afY aeE
def aeC:=u1 A_13 4 aeD
def b29:=u1 A_13 5 aeC
def r29:List bK:=[(.tmp 2)]
theorem cf29:EG.cf 13=some ⟨22,r29,b29⟩:=r_
def A_15:=v_ (c_ 15)
def Oa:=u0 A_15 0
def ahj:=u1 A_15 1 Oa
def afl:List bK:=[(.cell 6 true 1),(.tmp 7),(.tmp 8)]
theorem aj7:EG.cf 15=some ⟨17,afl,ahj⟩:=r_
def A_19:=v_ (c_ 19)
def NZ:=u0 A_19 0
def NY:=u1 A_19 1 NZ
def ahh:=u1 A_19 2 NY
def afk:List bK:=[(.tmp 4)]
theorem aj6:EG.cf 19=some ⟨26,afk,ahh⟩:=r_
def A_22:=v_ (c_ 22)
def aeS:=u0 A_22 0
def aeR:=u1 A_22 1 aeS
def aaf:=u1 A_22 2 aeR
def aa6:=u1 A_22 3 aaf
def aae:=u0 A_22 4
def aad:=u2 A_22 5 aa6 aae
def aac:=u1 A_22 6 aad
def b24:=u1 A_22 7 aac
def r24:List bK:=[(.tmp 4)]
theorem cf24:EG.cf 22=some ⟨29,r24,b24⟩:=r_
def A_23:=v_ (c_ 23)
def NX:=u0 A_23 0
def NW:=u1 A_23 1 NX
def NU:=u1 A_23 2 NW
def Qs:=u1 A_23 3 NU
def NT:=u0 A_23 4
def NS:=u2 A_23 5 Qs NT
def NR:=u1 A_23 6 NS
def ahg:=u1 A_23 7 NR
def aaR:List bK:=[(.tmp 2)]
theorem aj5:EG.cf 23=some ⟨18,aaR,ahg⟩:=r_
def A_24:=v_ (c_ 24)
def NQ:=u0 A_24 0
def NO:=u1 A_24 1 NQ
def AZ:=u1 A_24 2 NO
def ahf:=u1 A_24 3 AZ
def aaQ:List bK:=[(.tmp 2)]
theorem aj4:EG.cf 24=some ⟨15,aaQ,ahf⟩:=r_
def A_25:=v_ (c_ 25)
def pK:=u0 A_25 0
def ahe:=u1 A_25 1 pK
def aaP:List bK:=[(.tmp 4)]
theorem aj3:EG.cf 25=some ⟨21,aaP,ahe⟩:=r_
def A_26:=v_ (c_ 26)
def NN:=u0 A_26 0
def NM:=u1 A_26 1 NN
def ahd:=u1 A_26 2 NM
def aaO:List bK:=[(.cell 4 true 1),(.tmp 5),(.tmp 6)]
theorem aj2:EG.cf 26=some ⟨20,aaO,ahd⟩:=r_
def A_28:=v_ (c_ 28)
def aeX:=u0 A_28 0
def af3:=u1 A_28 1 aeX
def aeW:=u0 A_28 2
def aeV:=u2 A_28 3 af3 aeW
def zg:=u1 A_28 4 aeV
def b11:=u1 A_28 5 zg
def r11:List bK:=[(.tmp 4)]
theorem cf11:EG.cf 28=some ⟨61,r11,b11⟩:=r_
def A_29:=v_ (c_ 29)
def NL:=u0 A_29 0
def NK:=u1 A_29 1 NL
def AY:=u1 A_29 2 NK
def AW:=u1 A_29 3 AY
def NJ:=u1 A_29 4 AW
def ahc:=u1 A_29 5 NJ
def He:List bK:=[(.cell 8 true 1),(.cell 9 false 1),(.cell 10 false 1)]
theorem aj1:EG.cf 29=some ⟨30,He,ahc⟩:=r_
def A_31:=v_ (c_ 31)
def NI:=u0 A_31 0
def NH:=u1 A_31 1 NI
def NG:=u1 A_31 2 NH
def sx:=u1 A_31 3 NG
def NF:=u1 A_31 4 sx
def ND:=u1 A_31 5 NF
def Qr:=u1 A_31 6 ND
def NC:=u0 A_31 7
def NB:=u1 A_31 8 NC
def NA:=u1 A_31 9 NB
def oJ:=u1 A_31 10 NA
def Eh:=u2 A_31 11 Qr oJ
def Ef:=u1 A_31 12 Eh
def Ee:=u1 A_31 13 Ef
def ahb:=u1 A_31 14 Ee
def Ch:List bK:=[(.tmp 4)]
theorem aj0:EG.cf 31=some ⟨153,Ch,ahb⟩:=r_
def A_34:=v_ (c_ 34)
def Nz:=u0 A_34 0
def aha:=u1 A_34 1 Nz
def afj:List bK:=[(.tmp 3)]
theorem ajZ:EG.cf 34=some ⟨7,afj,aha⟩:=r_
def A_35:=v_ (c_ 35)
def Ny:=u0 A_35 0
def Nw:=u1 A_35 1 Ny
def Nv:=u1 A_35 2 Nw
def Nu:=u1 A_35 3 Nv
def Nt:=u1 A_35 4 Nu
def Ns:=u1 A_35 5 Nt
def ag9:=u1 A_35 6 Ns
def aaN:List bK:=[(.tmp 4)]
theorem ajY:EG.cf 35=some ⟨41,aaN,ag9⟩:=r_
def A_40:=v_ (c_ 40)
def Nr:=u0 A_40 0
def Qq:=u1 A_40 1 Nr
def Np:=u0 A_40 2
def Qp:=u1 A_40 3 Np
def No:=u1 A_40 4 Qp
def Nn:=u2 A_40 5 Qq No
def Nl:=u1 A_40 6 Nn
def Nk:=u1 A_40 7 Nl
def Qo:=u1 A_40 8 Nk
def Nj:=u0 A_40 9
def Ed:=u2 A_40 10 Qo Nj
def Ec:=u1 A_40 11 Ed
def ag8:=u1 A_40 12 Ec
def afi:List bK:=[(.tmp 2)]
theorem ajX:EG.cf 40=some ⟨60,afi,ag8⟩:=r_
def A_41:=v_ (c_ 41)
def Ni:=u0 A_41 0
def Qn:=u1 A_41 1 Ni
def Nh:=u0 A_41 2
def Ng:=u2 A_41 3 Qn Nh
def Nc:=u1 A_41 4 Ng
def ag7:=u1 A_41 5 Nc
def afh:List bK:=[(.tmp 4)]
theorem ajW:EG.cf 41=some ⟨32,afh,ag7⟩:=r_
def A_44:=v_ (c_ 44)
def adE:=u0 A_44 0
def s6_1:=u1 A_44 1 adE
def akN:=u1 A_44 2 s6_1
def ak1:=u1 A_44 3 akN
def akM:=u0 A_44 4
def akL:=u2 A_44 5 ak1 akM
def akK:=u1 A_44 6 akL
def b6:=u1 A_44 7 akK
def r6:List bK:=[(.tmp 2)]
theorem cf6:EG.cf 44=some ⟨36,r6,b6⟩:=r_
def A_45:=v_ (c_ 45)
def s7_0:=u0 A_45 0
def s7_1:=u1 A_45 1 s7_0
def s7_2:=u1 A_45 2 s7_1
def s7_3:=u1 A_45 3 s7_2
def b7:=u1 A_45 4 s7_3
def r7:List bK:=[(.tmp 10)]
theorem cf7:EG.cf 45=some ⟨28,r7,b7⟩:=r_
def A_46:=v_ (c_ 46)
def Nb:=u0 A_46 0
def Qm:=u1 A_46 1 Nb
def AU:=u0 A_46 2
def Na:=u2 A_46 3 Qm AU
def ag6:=u1 A_46 4 Na
def TG:List bK:=[(.tmp 2)]
theorem ajV:EG.cf 46=some ⟨23,TG,ag6⟩:=r_
def A_47:=v_ (c_ 47)
def MZ:=u0 A_47 0
def MY:=u1 A_47 1 MZ
def Ql:=u1 A_47 2 MY
def MX:=u0 A_47 3
def MW:=u2 A_47 4 Ql MX
def MV:=u1 A_47 5 MW
def ag5:=u1 A_47 6 MV
def aaM:List bK:=[(.tmp 2),(.tmp 3)]
theorem ajU:EG.cf 47=some ⟨27,aaM,ag5⟩:=r_
def A_48:=v_ (c_ 48)
def YI:=u0 A_48 0
def b111:=u1 A_48 1 YI
def r111:List bK:=[(.tmp 4)]
theorem cf111:EG.cf 48=some ⟨9,r111,b111⟩:=r_
def A_49:=v_ (c_ 49)
def AT:=u0 A_49 0
def ag4:=u1 A_49 1 AT
def aaL:List bK:=[(.tmp 2)]
theorem ajT:EG.cf 49=some ⟨6,aaL,ag4⟩:=r_
def A_50:=v_ (c_ 50)
def MU:=u0 A_50 0
def MT:=u1 A_50 1 MU
def MS:=u1 A_50 2 MT
def MR:=u1 A_50 3 MS
def ag3:=u1 A_50 4 MR
def aaK:List bK:=[(.tmp 2)]
theorem ajS:EG.cf 50=some ⟨12,aaK,ag3⟩:=r_
def A_51:=v_ (c_ 51)
def MQ:=u0 A_51 0
def MP:=u1 A_51 1 MQ
def MO:=u1 A_51 2 MP
def ag2:=u1 A_51 3 MO
def aaJ:List bK:=[(.cell 4 true 1),(.tmp 5),(.tmp 6)]
theorem ajR:EG.cf 51=some ⟨22,aaJ,ag2⟩:=r_
def A_55:=v_ (c_ 55)
def aeB:=u0 A_55 0
def afX:=u1 A_55 1 aeB
def aeA:=u0 A_55 2
def aez:=u2 A_55 3 afX aeA
def aaa:=u1 A_55 4 aez
def b47:=u1 A_55 5 aaa
def r47:List bK:=[(.tmp 4)]
theorem cf47:EG.cf 55=some ⟨27,r47,b47⟩:=r_
def A_56:=v_ (c_ 56)
def MN:=u0 A_56 0
def ag1:=u1 A_56 1 MN
def afg:List bK:=[(.tmp 4)]
theorem ajQ:EG.cf 56=some ⟨9,afg,ag1⟩:=r_
def A_57:=v_ (c_ 57)
def AS:=u0 A_57 0
def aa9:=u1 A_57 1 AS
def r1057:List bK:=[]
theorem Zi:EG.cf 57=some ⟨10,r1057,aa9⟩:=r_
def A_58:=v_ (c_ 58)
def MM:=u0 A_58 0
def ML:=u1 A_58 1 MM
def MJ:=u1 A_58 2 ML
def ag0:=u1 A_58 3 MJ
def aff:List bK:=[(.tmp 2)]
theorem ajP:EG.cf 58=some ⟨14,aff,ag0⟩:=r_
def A_59:=v_ (c_ 59)
def MI:=u0 A_59 0
def MH:=u1 A_59 1 MI
def Qk:=u1 A_59 2 MH
def MG:=u0 A_59 3
def MF:=u2 A_59 4 Qk MG
def ME:=u1 A_59 5 MF
def agZ:=u1 A_59 6 ME
def afe:List bK:=[(.tmp 4)]
theorem ajO:EG.cf 59=some ⟨28,afe,agZ⟩:=r_
def A_60:=v_ (c_ 60)
def Qj:=u0 A_60 0
def MD:=u0 A_60 1
def MC:=u1 A_60 2 MD
def MB:=u2 A_60 3 Qj MC
def MA:=u1 A_60 4 MB
def agY:=u1 A_60 5 MA
def afd:List bK:=[(.tmp 4),(.tmp 5)]
theorem ajN:EG.cf 60=some ⟨46,afd,agY⟩:=r_
def A_61:=v_ (c_ 61)
def Mz:=u0 A_61 0
def agX:=u1 A_61 1 Mz
def r1061:List bK:=[]
theorem ajM:EG.cf 61=some ⟨15,r1061,agX⟩:=r_
def A_62:=v_ (c_ 62)
def My:=u0 A_62 0
def agW:=u1 A_62 1 My
def afc:List bK:=[(.tmp 6)]
theorem ajL:EG.cf 62=some ⟨11,afc,agW⟩:=r_
def A_63:=v_ (c_ 63)
def Mw:=u0 A_63 0
def agV:=u1 A_63 1 Mw
def afb:List bK:=[(.tmp 6)]
theorem ajK:EG.cf 63=some ⟨12,afb,agV⟩:=r_
def A_64:=v_ (c_ 64)
def AR:=u0 A_64 0
def Mv:=u1 A_64 1 AR
def vG:=u1 A_64 2 Mv
def Mu:=u1 A_64 3 vG
def agU:=u1 A_64 4 Mu
def aaI:List bK:=[(.tmp 6),(.tmp 7),(.tmp 8)]
theorem ajJ:EG.cf 64=some ⟨64,aaI,agU⟩:=r_
def A_65:=v_ (c_ 65)
def Mt:=u0 A_65 0
def agT:=u1 A_65 1 Mt
def r1065:List bK:=[]
theorem ajI:EG.cf 65=some ⟨15,r1065,agT⟩:=r_
def Mr:=sr [qm 19 3,oq 20 (.bin .lss .num (.t 19) (xn 0))] (.cond (.t 20) (.region [oq 21 (.mkIface 9 (.c (.str (bs [108,101,110,32,111,117,116,32,111,102,32,114,97,110,103,101])))),⟨none,(.panic (.t 21)),none⟩]) .skip)
def A_66:=v_ (c_ 66)
def Mq:=u1 A_66 1 Mr
def Mp:=u1 A_66 2 Mq
def Mo:=u1 A_66 3 Mp
def Qi:=u1 A_66 4 Mo
def Mn:=u0 A_66 5
def Mm:=u1 A_66 6 Mn
def Qh:=u1 A_66 7 Mm
def Ml:=u0 A_66 8
def Mk:=u2 A_66 9 Qh Ml
def Eb:=u1 A_66 10 Mk
def Ea:=u2 A_66 11 Qi Eb
def DZ:=u1 A_66 12 Ea
def agS:=u1 A_66 13 DZ
def afa:List bK:=[(.tmp 2)]
theorem ajH:EG.cf 66=some ⟨36,afa,agS⟩:=r_
def A_67:=v_ (c_ 67)
def Mj:=u0 A_67 0
def Mi:=u1 A_67 1 Mj
def Qg:=u1 A_67 2 Mi
def Mh:=u0 A_67 3
def Mg:=u2 A_67 4 Qg Mh
def agR:=u1 A_67 5 Mg
def ae9:List bK:=[(.tmp 6)]
theorem ajG:EG.cf 67=some ⟨22,ae9,agR⟩:=r_
def A_73:=v_ (c_ 73)
def Mf:=u0 A_73 0
def Me:=u1 A_73 1 Mf
def Qf:=u1 A_73 2 Me
def Mb:=u0 A_73 3
def LZ:=u1 A_73 4 Mb
def Qe:=u1 A_73 5 LZ
def LY:=u0 A_73 6
def LX:=u2 A_73 7 Qe LY
def LW:=u1 A_73 8 LX
def LU:=u1 A_73 9 LW
def DY:=u2 A_73 10 Qf LU
def DX:=u1 A_73 11 DY
def DW:=u1 A_73 12 DX
def DU:=u1 A_73 13 DW
def agQ:=u1 A_73 14 DU
def ae8:List bK:=[(.tmp 6)]
theorem ajF:EG.cf 73=some ⟨69,ae8,agQ⟩:=r_
def A_78:=v_ (c_ 78)
def LS:=u0 A_78 0
def Qd:=u1 A_78 1 LS
def LR:=u0 A_78 2
def LP:=u2 A_78 3 Qd LR
def LO:=u1 A_78 4 LP
def LN:=u1 A_78 5 LO
def agP:=u1 A_78 6 LN
def ae7:List bK:=[(.tmp 2)]
theorem ajE:EG.cf 78=some ⟨34,ae7,agP⟩:=r_
def A_79:=v_ (c_ 79)
def AQ:=u0 A_79 0
def Qc:=u1 A_79 1 AQ
def LM:=u0 A_79 2
def LK:=u2 A_79 3 Qc LM
def nR:=u1 A_79 4 LK
def agO:=u1 A_79 5 nR
def aaH:List bK:=[(.tmp 4)]
theorem ajD:EG.cf 79=some ⟨60,aaH,agO⟩:=r_
def A_82:=v_ (c_ 82)
def aeQ:=u0 A_82 0
def b25:=u1 A_82 1 aeQ
def r25:List bK:=[(.tmp 4)]
theorem cf25:EG.cf 82=some ⟨9,r25,b25⟩:=r_
def A_83:=v_ (c_ 83)
def aeP:=u0 A_83 0
def b26:=u1 A_83 1 aeP
def r26:List bK:=[(.tmp 2)]
theorem cf26:EG.cf 83=some ⟨7,r26,b26⟩:=r_
def A_84:=v_ (c_ 84)
def aeO:=u0 A_84 0
def aeN:=u1 A_84 1 aeO
def af1:=u1 A_84 2 aeN
def aeM:=u0 A_84 3
def aeL:=u1 A_84 4 aeM
def af0:=u1 A_84 5 aeL
def aeK:=u0 A_84 6
def aab:=u2 A_84 7 af0 aeK
def BZ:=u1 A_84 8 aab
def BY:=u1 A_84 9 BZ
def XD:=u2 A_84 10 af1 BY
def HN:=u1 A_84 11 XD
def HL:=u1 A_84 12 HN
def XC:=u1 A_84 13 HL
def b27:=u1 A_84 14 XC
def r27:List bK:=[(.tmp 12)]
theorem cf27:EG.cf 84=some ⟨107,r27,b27⟩:=r_
def A_85:=v_ (c_ 85)
def aeJ:=u0 A_85 0
def afZ:=u1 A_85 1 aeJ
def aeI:=u0 A_85 2
def aeH:=u2 A_85 3 afZ aeI
def aeG:=u1 A_85 4 aeH
def b28:=u1 A_85 5 aeG
def r28:List bK:=[(.tmp 2)]
theorem cf28:EG.cf 85=some ⟨21,r28,b28⟩:=r_
def A_86:=v_ (c_ 86)
def vF:=u0 A_86 0
def Qb:=u1 A_86 1 vF
def LJ:=u0 A_86 2
def Qa:=u1 A_86 3 LJ
def su:=u0 A_86 4
def PZ:=u1 A_86 5 su
def LI:=u0 A_86 6
def AP:=u2 A_86 7 PZ LI
def AO:=u2 A_86 8 Qa AP
def AN:=u2 A_86 9 Qb AO
def iI:=u1 A_86 10 AN
def agN:=u1 A_86 11 iI
def Cg:List bK:=[(.tmp 2)]
theorem ajC:EG.cf 86=some ⟨124,Cg,agN⟩:=r_
def A_87:=v_ (c_ 87)
def LH:=u0 A_87 0
def LG:=u1 A_87 1 LH
def LF:=u1 A_87 2 LG
def AM:=u1 A_87 3 LF
def LD:=u1 A_87 4 AM
def agM:=u1 A_87 5 LD
def aaG:List bK:=[(.tmp 4)]
theorem ajB:EG.cf 87=some ⟨32,aaG,agM⟩:=r_
def A_88:=v_ (c_ 88)
def Yt:=u0 A_88 0
def Ys:=u1 A_88 1 Yt
def Yr:=u1 A_88 2 Ys
def ZF:=u1 A_88 3 Yr
def Yq:=u0 A_88 4
def Yp:=u2 A_88 5 ZF Yq
def b160:=u1 A_88 6 Yp
def akT:List bK:=[(.tmp 4)]
theorem cf160:EG.cf 88=some ⟨19,akT,b160⟩:=r_
def A_89:=v_ (c_ 89)
def LC:=u0 A_89 0
def PY:=u1 A_89 1 LC
def AL:=u0 A_89 2
def LB:=u2 A_89 3 PY AL
def LA:=u1 A_89 4 LB
def agL:=u1 A_89 5 LA
def aaF:List bK:=[(.tmp 4)]
theorem ajA:EG.cf 89=some ⟨29,aaF,agL⟩:=r_
def A_90:=v_ (c_ 90)
def Lz:=u0 A_90 0
def PX:=u1 A_90 1 Lz
def Ly:=u0 A_90 2
def Lx:=u2 A_90 3 PX Ly
def Lw:=u1 A_90 4 Lx
def Lv:=u1 A_90 5 Lw
def agK:=u1 A_90 6 Lv
def aaE:List bK:=[(.tmp 4)]
theorem ajz:EG.cf 90=some ⟨28,aaE,agK⟩:=r_
def A_91:=v_ (c_ 91)
def Lu:=u0 A_91 0
def PW:=u1 A_91 1 Lu
def Lt:=u0 A_91 2
def Ls:=u2 A_91 3 PW Lt
def Lr:=u1 A_91 4 Ls
def agJ:=u1 A_91 5 Lr
def aaD:List bK:=[(.tmp 2)]
theorem ajy:EG.cf 91=some ⟨21,aaD,agJ⟩:=r_
def A_92:=v_ (c_ 92)
def Lq:=u0 A_92 0
def Lp:=u1 A_92 1 Lq
def PU:=u1 A_92 2 Lp
def Lo:=u0 A_92 3
def Ln:=u1 A_92 4 Lo
def Lm:=u1 A_92 5 Ln
def Ll:=u1 A_92 6 Lm
def vE:=u2 A_92 7 PU Ll
def Lj:=u1 A_92 8 vE
def agI:=u1 A_92 9 Lj
def aaC:List bK:=[(.cell 4 true 1),(.tmp 5)]
theorem ajx:EG.cf 92=some ⟨62,aaC,agI⟩:=r_
def aey:aF:=(.seq (.block 1 (.seq (.draw [dq (qf 27 1 2) 0 0 false,dq (ql 28 27) 0 0 false,dq (qm 29 5) 0 0 false,dq (qx 30 2 28 29) 0 0 false,dq (qL 31 2 30) 0 0 false,dq (qf 32 1 3) 0 0 false,dq (ql 33 32) 0 0 false,dq (qm 34 5) 0 0 true,dq (qx 35 2 33 34) 0 0 true,dq (qL 36 2 35) 0 0 true,dq (oq 37 (.bin .neq (.struct [(0,1),(1,1)]) (.t 31) (.t 36))) 0 0 true]) (.cond (.t 37) (sr [qb 4 false] .ret) .skip))) (.region [qm 25 5,qa 26 25 1,qm 5 26]))
def afW:aF:=(.seq (sr [qm 20 5,qf 21 1 2,ql 22 21,qe 23 22,qlt 24 20 23] (.cond (.t 24) .skip (.exit 0))) aey)
def aex:=sr [qb 4 true] .ret
def aew:aF:=(.seq (sr [qi 5 0] (.block 0 (.loop afW))) aex)
def Tx:aF:=(.seq (sr [qf 6 0 2,ql 7 6,qf 8 0 3,ql 9 8,oq 10 (.bin .neq .num (.t 7) (.t 9)),qm 11 10,og 12 (xf 1 2) 11 false,og 13 (xl 12) 11 false,og 14 (xe 13) 11 false,og 15 (xf 1 3) 11 false,og 16 (xl 15) 11 false,og 17 (xe 16) 11 false,og 18 (.bin .neq .num (.t 14) (.t 17)) 11 false,qo 19 11 18] (.cond (.t 19) (sr [qb 4 false] .ret) .skip)) aew)
def b58:=sr [oq 2 (.box 2 (.t 0)),oq 3 (.box 2 (.t 1)),qb 4 false] Tx
def r58:List bK:=[(.tmp 4)]
theorem cf58:EG.cf 93=some ⟨38,r58,b58⟩:=r_
def A_94:=v_ (c_ 94)
def XX:=u0 A_94 0
def b193:=u1 A_94 1 XX
def r193:List bK:=[(.tmp 4)]
theorem cf193:EG.cf 94=some ⟨9,r193,b193⟩:=r_
def A_95:=v_ (c_ 95)
def AK:=u0 A_95 0
def agH:=u1 A_95 1 AK
def aaB:List bK:=[(.tmp 3)]
theorem ajw:EG.cf 95=some ⟨13,aaB,agH⟩:=r_
def A_96:=v_ (c_ 96)
def Li:=u0 A_96 0
def AJ:=u1 A_96 1 Li
def By:=u1 A_96 2 AJ
def AI:=u0 A_96 3
def AE:=u1 A_96 4 AI
def AD:=u1 A_96 5 AE
def AB:=u1 A_96 6 AD
def AA:=u1 A_96 7 AB
def sj:=u2 A_96 8 By AA
def Az:=u1 A_96 9 sj
def wo:=u1 A_96 10 Az
def wm:=u1 A_96 11 wo
def wk:=u1 A_96 12 wm
def wj:=u1 A_96 13 wk
def aa8:=u1 A_96 14 wj
def Cf:List bK:=[(.tmp 4)]
theorem Zh:EG.cf 96=some ⟨97,Cf,aa8⟩:=r_
def A_97:=v_ (c_ 97)
def Lh:=u0 A_97 0
def PS:=u1 A_97 1 Lh
def agG:=u1 A_97 2 PS
def r1097:List bK:=[]
theorem ajv:EG.cf 97=some ⟨28,r1097,agG⟩:=r_
def agF:=v_ (c_ 98)
def r1098:List bK:=[]
theorem aju:EG.cf 98=some ⟨1,r1098,agF⟩:=r_
def A_99:=v_ (c_ 99)
def Lg:=u0 A_99 0
def Lf:=u1 A_99 1 Lg
def Lc:=u1 A_99 2 Lf
def Lb:=u1 A_99 3 Lc
def agE:=u1 A_99 4 Lb
def ae6:List bK:=[(.tmp 8)]
theorem ajt:EG.cf 99=some ⟨17,ae6,agE⟩:=r_
def A_100:=v_ (c_ 100)
def La:=u0 A_100 0
def KZ:=u1 A_100 1 La
def agD:=u1 A_100 2 KZ
def aaA:List bK:=[(.tmp 6)]
theorem ajs:EG.cf 100=some ⟨26,aaA,agD⟩:=r_
def A_101:=v_ (c_ 101)
def KY:=u0 A_101 0
def KX:=u1 A_101 1 KY
def agC:=u1 A_101 2 KX
def aaz:List bK:=[(.tmp 6)]
theorem ajr:EG.cf 101=some ⟨14,aaz,agC⟩:=r_
def A_102:=v_ (c_ 102)
def KV:=u0 A_102 0
def vD:=u1 A_102 1 KV
def agB:=u1 A_102 2 vD
def ae5:List bK:=[(.tmp 4)]
theorem ajq:EG.cf 102=some ⟨16,ae5,agB⟩:=r_
def A_103:=v_ (c_ 103)
def Ay:=u0 A_103 0
def Ax:=u1 A_103 1 Ay
def KT:=u1 A_103 2 Ax
def agA:=u1 A_103 3 KT
def aay:List bK:=[(.cell 4 true 9),(.tmp 5)]
theorem ajp:EG.cf 103=some ⟨33,aay,agA⟩:=r_
def A_104:=v_ (c_ 104)
def KQ:=u0 A_104 0
def KP:=u1 A_104 1 KQ
def KO:=u1 A_104 2 KP
def agz:=u1 A_104 3 KO
def aax:List bK:=[(.tmp 6),(.tmp 7)]
theorem ajo:EG.cf 104=some ⟨21,aax,agz⟩:=r_
def A_105:=v_ (c_ 105)
def KN:=u0 A_105 0
def Aw:=u1 A_105 1 KN
def KL:=u1 A_105 2 Aw
def Av:=u1 A_105 3 KL
def KJ:=u1 A_105 4 Av
def KI:=u1 A_105 5 KJ
def KH:=u1 A_105 6 KI
def KF:=u1 A_105 7 KH
def KE:=u1 A_105 8 KF
def KD:=u1 A_105 9 KE
def agy:=u1 A_105 10 KD
def TF:List bK:=[(.tmp 8),(.tmp 9),(.tmp 10)]
theorem ajn:EG.cf 105=some ⟨109,TF,agy⟩:=r_
def A_106:=v_ (c_ 106)
def vC:=u0 A_106 0
def si:=u1 A_106 1 vC
def KC:=u1 A_106 2 si
def PR:=u1 A_106 3 KC
def KB:=u0 A_106 4
def Kz:=u1 A_106 5 KB
def Au:=u1 A_106 6 Kz
def Ky:=u1 A_106 7 Au
def Kx:=u2 A_106 8 PR Ky
def Kw:=u1 A_106 9 Kx
def DT:=u1 A_106 10 Kw
def DQ:=u1 A_106 11 DT
def DP:=u1 A_106 12 DQ
def agx:=u1 A_106 13 DP
def TE:List bK:=[(.tmp 8),(.tmp 9),(.tmp 10)]
theorem ajm:EG.cf 106=some ⟨111,TE,agx⟩:=r_
def A_120:=v_ (c_ 120)
def Ia:=u0 A_120 0
def YC:=u1 A_120 1 Ia
def YB:=u1 A_120 2 YC
def ZH:=u1 A_120 3 YB
def YA:=u0 A_120 4
def HZ:=u2 A_120 5 ZH YA
def Yz:=u1 A_120 6 HZ
def b135:=u1 A_120 7 Yz
def akV:List bK:=[(.tmp 2)]
theorem cf135:EG.cf 120=some ⟨65,akV,b135⟩:=r_
def A_121:=v_ (c_ 121)
def YJ:=u0 A_121 0
def b109:=u1 A_121 1 YJ
def r109:List bK:=[(.tmp 4)]
theorem cf109:EG.cf 121=some ⟨9,r109,b109⟩:=r_
def A_124:=v_ (c_ 124)
def aev:=u0 A_124 0
def aeu:=u1 A_124 1 aev
def aet:=u1 A_124 2 aeu
def afV:=u1 A_124 3 aet
def aes:=u0 A_124 4
def aer:=u2 A_124 5 afV aes
def b68:=u1 A_124 6 aer
def r68:List bK:=[(.tmp 4)]
theorem cf68:EG.cf 124=some ⟨19,r68,b68⟩:=r_
def A_125:=v_ (c_ 125)
def ZZ:=u0 A_125 0
def GZ:=u1 A_125 1 ZZ
def GY:=u1 A_125 2 GZ
def GX:=u1 A_125 3 GY
def GW:=u1 A_125 4 GX
def b69:=u1 A_125 5 GW
def r69:List bK:=[(.tmp 2)]
theorem cf69:EG.cf 125=some ⟨57,r69,b69⟩:=r_
def A_126:=v_ (c_ 126)
def aeq:=u0 A_126 0
def aep:=u1 A_126 1 aeq
def aeo:=u1 A_126 2 aep
def aen:=u1 A_126 3 aeo
def afU:=u1 A_126 4 aen
def aem:=u0 A_126 5
def ael:=u2 A_126 6 afU aem
def aek:=u1 A_126 7 ael
def Tw:=u1 A_126 8 aek
def b70:=u1 A_126 9 Tw
def r70:List bK:=[(.tmp 2)]
theorem cf70:EG.cf 126=some ⟨45,r70,b70⟩:=r_
def A_127:=v_ (c_ 127)
def Tv:=u0 A_127 0
def afT:=u1 A_127 1 Tv
def Tu:=u0 A_127 2
def afS:=u1 A_127 3 Tu
def aej:=u0 A_127 4
def aei:=u2 A_127 5 afS aej
def aeh:=u2 A_127 6 afT aei
def aeg:=u1 A_127 7 aeh
def b71:=u1 A_127 8 aeg
def r71:List bK:=[(.tmp 6)]
theorem cf71:EG.cf 127=some ⟨61,r71,b71⟩:=r_
def A_128:=v_ (c_ 128)
def aef:=u0 A_128 0
def aee:=u1 A_128 1 aef
def b72:=u1 A_128 2 aee
def r72:List bK:=[(.tmp 4)]
theorem cf72:EG.cf 128=some ⟨27,r72,b72⟩:=r_
def A_129:=v_ (c_ 129)
def As:=u0 A_129 0
def agw:=u1 A_129 1 As
def aaw:List bK:=[(.tmp 2)]
theorem ajl:EG.cf 129=some ⟨11,aaw,agw⟩:=r_
def A_130:=v_ (c_ 130)
def vB:=u0 A_130 0
def PQ:=u1 A_130 1 vB
def Kv:=u0 A_130 2
def Ku:=u2 A_130 3 PQ Kv
def sh:=u1 A_130 4 Ku
def agv:=u1 A_130 5 sh
def aav:List bK:=[(.tmp 4)]
theorem ajk:EG.cf 130=some ⟨47,aav,agv⟩:=r_
def A_131:=v_ (c_ 131)
def Kt:=u0 A_131 0
def nQ:=u1 A_131 1 Kt
def Ar:=u1 A_131 2 nQ
def Ks:=u1 A_131 3 Ar
def agu:=u1 A_131 4 Ks
def Hc:List bK:=[(.tmp 2)]
theorem ajj:EG.cf 131=some ⟨87,Hc,agu⟩:=r_
def A_132:=v_ (c_ 132)
def vA:=u0 A_132 0
def PO:=u1 A_132 1 vA
def Aq:=u0 A_132 2
def vz:=u1 A_132 3 Aq
def Ap:=u2 A_132 4 PO vz
def Ao:=u1 A_132 5 Ap
def Kr:=u1 A_132 6 Ao
def agt:=u1 A_132 7 Kr
def Cd:List bK:=[(.tmp 2)]
theorem aji:EG.cf 132=some ⟨96,Cd,agt⟩:=r_
def A_133:=v_ (c_ 133)
def vy:=u0 A_133 0
def Kq:=u1 A_133 1 vy
def An:=u1 A_133 2 Kq
def PN:=u1 A_133 3 An
def Kp:=u0 A_133 4
def Ko:=u2 A_133 5 PN Kp
def Kn:=u1 A_133 6 Ko
def ags:=u1 A_133 7 Kn
def aau:List bK:=[(.tmp 4)]
theorem ajh:EG.cf 133=some ⟨44,aau,ags⟩:=r_
def A_134:=v_ (c_ 134)
def Km:=u0 A_134 0
def Kl:=u1 A_134 1 Km
def PL:=u1 A_134 2 Kl
def Kk:=u0 A_134 3
def Kj:=u1 A_134 4 Kk
def PK:=u1 A_134 5 Kj
def Ki:=u0 A_134 6
def Kh:=u1 A_134 7 Ki
def PJ:=u1 A_134 8 Kh
def Kg:=u0 A_134 9
def DO:=u1 A_134 10 Kg
def Fq:=u1 A_134 11 DO
def rI:=u0 A_134 12
def kQ:aF:=(.seq (sr [qf 32 0 3,ql 33 32] (.block 0 (.seq (sr [oq 35 (.bin .eql .num (.t 33) (xn 1)),qm 34 35] (.cond (.t 34) .skip (.region [oq 36 (.bin .eql .num (.t 33) (xn 2)),qm 34 36]))) (.cond (.t 34) (sr [qL 37 25 5,oq 38 (.faddr 8 5 true (.t 3)),qL 39 5 38,qf 40 2 3,ql 41 40,qc 42 170 [.t 37,.t 39,(xn 0),.t 41],qm 4 42] .ret) (sr [oq 44 (.bin .eql .num (.t 33) (xn 3)),qm 43 44] (.cond (.t 43) (sr [qf 45 1 3,ql 46 45,oq 47 (.lit true false 1 [(.str (bs []))] 1 [(0,(.t 46))]),qf 48 1 5,qs 1 48 47] (.seq (sr [qi 7 0] (.block 1 (.loop PL))) (sr [qL 69 23 3,qc 70 168 [.t 69],qm 9 70] (sr [qm 71 9,qm 72 9,qe 73 72,oq 74 (.bin .sub .num (.t 73) (xn 1)),oq 75 (.slice false 1 (.t 71) none (some (.t 74)) none),qf 76 1 5,qs 1 76 75] (.seq (sr [qL 77 25 5,oq 78 (.faddr 15 7 true (.t 3)),oq 79 (.faddr 1 5 true (.t 78)),qL 80 5 79,oq 81 (.faddr 15 7 true (.t 3)),qf 82 0 81,ql 83 82,qc 84 170 [.t 77,.t 80,(xn 0),.t 83],qm 10 84] (sr [qm 85 10,oq 86 (.bin .neq .num (.t 85) (xn 0))] (.cond (.t 86) (sr [qm 87 10,qm 4 87] .ret) .skip))) (sr [qm 88 9,qf 89 1 5,qs 1 89 88] (sr [qi 11 0] (.block 3 (.loop PK))))))))) (sr [oq 113 (.bin .eql .num (.t 33) (xn 4)),qm 112 113] (.cond (.t 112) (.seq (sr [qi 13 0] (.block 5 (.loop PJ))) (sr [qL 134 23 3,qc 135 168 [.t 134],qf 136 1 5,qs 1 136 135] (sr [qi 15 0] (.block 7 (.loop Fq))))) .skip)))))))) rI)
def DN:=u1 A_134 14 kQ
def DM:=u1 A_134 15 DN
def agr:=u1 A_134 16 DM
def TD:List bK:=[(.tmp 4)]
theorem ajg:EG.cf 134=some ⟨161,TD,agr⟩:=r_
def A_135:=v_ (c_ 135)
def Kf:=u0 A_135 0
def PI:=u1 A_135 1 Kf
def Ke:=u0 A_135 2
def sg:=u1 A_135 3 Ke
def iO:=u1 A_135 4 sg
def Am:=u1 A_135 5 iO
def Kd:=u2 A_135 6 PI Am
def Al:=u1 A_135 7 Kd
def agq:=u1 A_135 8 Al
def Cc:List bK:=[(.tmp 2)]
theorem ajf:EG.cf 135=some ⟨88,Cc,agq⟩:=r_
def A_136:=v_ (c_ 136)
def Kc:=u0 A_136 0
def PH:=u1 A_136 1 Kc
def Kb:=u0 A_136 2
def Ka:=u2 A_136 3 PH Kb
def agp:=u1 A_136 4 Ka
def aas:List bK:=[(.tmp 4)]
theorem aje:EG.cf 136=some ⟨21,aas,agp⟩:=r_
def A_139:=v_ (c_ 139)
def JZ:=u0 A_139 0
def JY:=u1 A_139 1 JZ
def ago:=u1 A_139 2 JY
def ae4:List bK:=[(.tmp 4)]
theorem ajd:EG.cf 139=some ⟨27,ae4,ago⟩:=r_
def JX:aF:=(.seq (.block 1 (sr [qm 67 65,qx 68 1 63 65,ql 69 68,qm 15 67,qm 16 69] (.draw [dq (qm 70 14) 0 2 false,dq (qm 71 15) 0 2 false,dq (ql 72 5) 0 1 false,dq (qm 73 16) 0 1 false,dq (qm 74 1) 0 1 false,dq (qf 75 0 12) 0 0 false,dq (ql 76 75) 0 0 false,dq (qm 77 15) 0 0 true,dq (qc 78 139 [.t 76,.t 77]) 0 1 true,dq (oq 79 (.bin .add .num (.t 74) (.t 78))) 1 1 true,dq (oq 80 (.call (.t 72) [.t 73,.t 79])) 1 2 true,dq (qx 81 1 70 71) 2 2 true,dq (qs 1 81 80) 2 3 true]))) (.region [qa 82 65 1,qm 65 82]))
def JW:aF:=(.seq (.cond (.t 66) .skip (.exit 0)) JX)
def PG:=sr [qlt 66 65 64] JW
def JV:=sr [qm 91 13,qm 8 91] .ret
def Ak:=sr [ql 88 3,qL 89 2 9,qm 90 13,⟨none,(.mapUp 3 (.t 88) (.t 89) (.t 90)),none⟩] JV
def JU:aF:=(.seq (sr [qf 48 0 12,ql 49 48,oq 50 (.bin .eql .num (.t 49) (xn 0))] (.cond (.t 50) (.region [ql 51 4,qf 52 1 12,ql 53 52,qm 54 1,oq 55 (.bin .sub .num (.t 53) (.t 54)),qm 56 1,oq 57 (.call (.t 51) [.t 55,.t 56]),qm 13 57]) (sr [qf 58 4 12,ql 59 58,qe 60 59,oq 61 (.mkSlice false 1 8 [(i_ 0)] (.t 60) (.t 60)),qm 14 61] (.seq (sr [qf 62 4 12,ql 63 62,qe 64 63,qi 65 0] (.block 0 (.loop PG))) (sr [qm 83 14,qf 84 4 12,qs 1 84 83] (.region [ql 85 2,qL 86 5 12,qc 87 96 [.t 85,.t 86],qm 13 87])))))) Ak)
def JT:=sr [qi 13 0] JU
def JS:=sr [ql 40 2,oq 41 (.nilChk (.t 40)),oq 42 (.faddr 0 1 true (.t 41)),qf 43 0 42,ql 44 43,qm 45 0,qx 46 5 44 45,qL 47 5 46,qz 12,qs 5 12 47] JT
def JR:=sr [ql 38 2,qc 39 61 [.t 38]] JS
def JQ:aF:=(.seq (sr [ql 31 3,qL 32 2 9,oq 33 (.lookup 3 (i_ 0) (.t 31) (.t 32) true),qm 30 33,oq 34 (.extract (.t 30) 0),oq 35 (.extract (.t 30) 1),qm 10 34,qm 11 35] (sr [qm 36 11] (.cond (.t 36) (sr [qm 37 10,qm 8 37] .ret) .skip))) JR)
def DL:=sr [qm 27 0,qm 28 1,oq 29 (.build [(i_ 0),(i_ 0)] [(0,1,(.t 27)),(1,1,(.t 28))]),oq 9 (.new [(i_ 0),(i_ 0)]),qs 2 9 29] JQ
def DK:aF:=(.seq (sr [ql 17 2,oq 18 (.nilChk (.t 17)),qf 19 3 18,ql 20 19,qm 21 0,qx 22 1 20 21,ql 23 22,qm 24 1,oq 25 (.bin .leq .num (.t 23) (.t 24))] (.cond (.t 25) (sr [qm 26 0,qm 8 26] .ret) .skip)) DL)
def aa7:=sr [qi 8 0] DK
def Cb:List bK:=[(.tmp 8)]
theorem ajc:EG.cf 140=some ⟨92,Cb,aa7⟩:=r_
def A_141:=v_ (c_ 141)
def JP:=u0 A_141 0
def agn:=u1 A_141 1 JP
def ae3:List bK:=[(.tmp 6)]
theorem ajb:EG.cf 141=some ⟨14,ae3,agn⟩:=r_
def lO:=sr [qm 8 20] (.region [oq 9 (.new [(i_ 0),(i_ 0),(i_ 0),(i_ 0),(i_ 0),(i_ 0),(.str (bs [])),.nl,.nl]),qs 9 9 21])
def lN:aF:=(.block 3 (sr [qm 22 8,ql 23 3,oq 24 (.bin .eql .num (.t 22) (.t 23))] (.cond (.t 24) (sr [qL 25 9 9,qs 9 4 25,⟨none,(.store 1 (.t 5) (xn 0)),none⟩] .ret) .skip)))
def XH:=sr [qL 17 23 7,qm 18 6,qc 19 178 [.t 17,.t 18]] (.block 2 (.rangeFunc (.t 19) [20,21] lO lN))
def A_142:=v_ (c_ 142)
def XG:=u1 A_142 3 XH
def XF:=u1 A_142 4 XG
def Zz:=u1 A_142 5 XF
def HO:=u0 A_142 6
def XE:=u2 A_142 7 Zz HO
def ak2:=u1 A_142 8 XE
def ZK:List bK:=[(.cell 4 true 9),(.cell 5 false 1)]
theorem cf257:EG.cf 142=some ⟨28,ZK,ak2⟩:=r_
def A_143:=v_ (c_ 143)
def Xr:=u0 A_143 0
def b316:=u1 A_143 1 Xr
def r316:List bK:=[(.cell 4 true 5),(.tmp 5)]
theorem cf316:EG.cf 143=some ⟨11,r316,b316⟩:=r_
def A_144:=v_ (c_ 144)
def JO:=u0 A_144 0
def JN:=u1 A_144 1 JO
def PF:=u1 A_144 2 JN
def JM:=u0 A_144 3
def JL:=u2 A_144 4 PF JM
def JK:=u1 A_144 5 JL
def agm:=u1 A_144 6 JK
def ae2:List bK:=[(.tmp 4)]
theorem aja:EG.cf 144=some ⟨36,ae2,agm⟩:=r_
def A_145:=v_ (c_ 145)
def Zw:=u0 A_145 0
def HJ:=u0 A_145 1
def Xt:=u2 A_145 2 Zw HJ
def Xs:=u1 A_145 3 Xt
def b312:=u1 A_145 4 Xs
def akR:List bK:=[(.tmp 2),(.cell 3 true 5)]
theorem cf312:EG.cf 145=some ⟨27,akR,b312⟩:=r_
def A_146:=v_ (c_ 146)
def JJ:=u0 A_146 0
def vx:=u1 A_146 1 JJ
def vw:=u1 A_146 2 vx
def nO:=u1 A_146 3 vw
def nN:=u1 A_146 4 nO
def JI:=u1 A_146 5 nN
def JH:=u1 A_146 6 JI
def agl:=u1 A_146 7 JH
def aar:List bK:=[(.cell 4 true 23),(.tmp 5),(.tmp 6),(.tmp 7)]
theorem ai9:EG.cf 146=some ⟨93,aar,agl⟩:=r_
def A_147:=v_ (c_ 147)
def JG:=u0 A_147 0
def JF:=u1 A_147 1 JG
def agk:=u1 A_147 2 JF
def ae1:List bK:=[(.tmp 2)]
theorem ai8:EG.cf 147=some ⟨8,ae1,agk⟩:=r_
def A_148:=v_ (c_ 148)
def JE:=u0 A_148 0
def JD:=u1 A_148 1 JE
def JC:=u1 A_148 2 JD
def PC:=u1 A_148 3 JC
def JB:=u0 A_148 4
def JA:=u2 A_148 5 PC JB
def agj:=u1 A_148 6 JA
def aaq:List bK:=[(.cell 4 true 8),(.tmp 5)]
theorem ai7:EG.cf 148=some ⟨26,aaq,agj⟩:=r_
def A_150:=v_ (c_ 150)
def Aj:=u0 A_150 0
def PB:=u1 A_150 1 Aj
def Jz:=u0 A_150 2
def Jy:=u2 A_150 3 PB Jz
def agi:=u1 A_150 4 Jy
def aap:List bK:=[(.cell 4 true 9),(.tmp 5)]
theorem ai6:EG.cf 150=some ⟨28,aap,agi⟩:=r_
def A_161:=v_ (c_ 161)
def XY:=u0 A_161 0
def b192:=u1 A_161 1 XY
def r192:List bK:=[(.tmp 2)]
theorem cf192:EG.cf 161=some ⟨7,r192,b192⟩:=r_
def A_162:=v_ (c_ 162)
def Yy:=u0 A_162 0
def Yx:=u1 A_162 1 Yy
def Yw:=u1 A_162 2 Yx
def ZG:=u1 A_162 3 Yw
def Yv:=u0 A_162 4
def Yu:=u2 A_162 5 ZG Yv
def b159:=u1 A_162 6 Yu
def akU:List bK:=[(.tmp 4)]
theorem cf159:EG.cf 162=some ⟨19,akU,b159⟩:=r_
def A_163:=v_ (c_ 163)
def Ha:=u0 A_163 0
def Tz:=u1 A_163 1 Ha
def wW:=u1 A_163 2 Tz
def aeU:=u1 A_163 3 wW
def af2:=u1 A_163 4 aeU
def aag:=u0 A_163 5
def aeT:=u2 A_163 6 af2 aag
def Ty:=u1 A_163 7 aeT
def b21:=u1 A_163 8 Ty
def r21:List bK:=[(.tmp 2)]
theorem cf21:EG.cf 163=some ⟨67,r21,b21⟩:=r_
def A_164:=v_ (c_ 164)
def YH:=u0 A_164 0
def YG:=u1 A_164 1 YH
def b116:=u1 A_164 2 YG
def r116:List bK:=[(.tmp 2)]
theorem cf116:EG.cf 164=some ⟨15,r116,b116⟩:=r_
def A_165:=v_ (c_ 165)
def YF:=u0 A_165 0
def b117:=u1 A_165 1 YF
def r117:List bK:=[(.tmp 2)]
theorem cf117:EG.cf 165=some ⟨21,r117,b117⟩:=r_
def A_166:=v_ (c_ 166)
def Jx:=u0 A_166 0
def agh:=u1 A_166 1 Jx
def ae0:List bK:=[(.tmp 2)]
theorem ai5:EG.cf 166=some ⟨6,ae0,agh⟩:=r_
def A_167:=v_ (c_ 167)
def Ai:=u0 A_167 0
def PA:=u1 A_167 1 Ai
def Jw:=u0 A_167 2
def Jv:=u2 A_167 3 PA Jw
def Ju:=u1 A_167 4 Jv
def agf:=u1 A_167 5 Ju
def aao:List bK:=[(.tmp 2)]
theorem ai4:EG.cf 167=some ⟨32,aao,agf⟩:=r_
def A_168:=v_ (c_ 168)
def Jt:=u0 A_168 0
def Pz:=u1 A_168 1 Jt
def Js:=u0 A_168 2
def Py:=u1 A_168 3 Js
def Jr:=u0 A_168 4
def Jq:aF:=(.seq (sr [qf 7 0 1,ql 8 7] (.block 0 (.seq (sr [oq 10 (.bin .eql .num (.t 8) (xn 0)),qm 9 10] (.cond (.t 9) .skip (sr [oq 11 (.bin .eql .num (.t 8) (xn 1)),qm 9 11] (.cond (.t 9) .skip (.region [oq 12 (.bin .eql .num (.t 8) (xn 2)),qm 9 12]))))) (.cond (.t 9) (sr [qf 13 1 1,ql 14 13,oq 15 (.lit true false 1 [(.str (bs []))] 1 [(0,(.t 14))]),qm 2 15] .ret) (sr [oq 17 (.bin .eql .num (.t 8) (xn 3)),qm 16 17] (.cond (.t 16) (sr [qf 18 1 1,ql 19 18,oq 20 (.lit true false 1 [(.str (bs []))] 1 [(0,(.t 19))]),qm 3 20] (.seq (sr [qi 4 0] (.block 1 (.loop Pz))) (sr [qm 37 3,qf 38 1 1,ql 39 38,oq 40 (.bin .add .num (.t 39) (.c (.str (bs [46,114,101,99])))),oq 41 (.lit true false 1 [(.str (bs []))] 1 [(0,(.t 40))]),oq 42 (.builtin (.append 1 false [(.str (bs []))] 16) [.t 37,.t 41]),qm 2 42] .ret))) (sr [oq 44 (.bin .eql .num (.t 8) (xn 4)),qm 43 44] (.cond (.t 43) (sr [oq 5 (.mv (.c .nl))] (.seq (sr [qi 6 0] (.block 3 (.loop Py))) (sr [qm 61 5,qm 2 61] .ret))) .skip)))))))) Jr)
def age:=u1 A_168 6 Jq
def aan:List bK:=[(.tmp 2)]
theorem ai3:EG.cf 168=some ⟨62,aan,age⟩:=r_
def A_169:=v_ (c_ 169)
def Jp:=u0 A_169 0
def Pw:=u1 A_169 1 Jp
def Jo:=u0 A_169 2
def Jn:=u2 A_169 3 Pw Jo
def agd:=u1 A_169 4 Jn
def aam:List bK:=[(.tmp 4)]
theorem ai2:EG.cf 169=some ⟨18,aam,agd⟩:=r_
def A_170:=v_ (c_ 170)
def Jm:=u0 A_170 0
def Jl:=u1 A_170 1 Jm
def agc:=u1 A_170 2 Jl
def aal:List bK:=[(.tmp 8)]
theorem ai1:EG.cf 170=some ⟨20,aal,agc⟩:=r_
def A_171:=v_ (c_ 171)
def Jk:=u0 A_171 0
def Jj:=u1 A_171 1 Jk
def Ji:=u1 A_171 2 Jj
def Jh:=u1 A_171 3 Ji
def Jg:=u1 A_171 4 Jh
def Jf:=u1 A_171 5 Jg
def Pu:=u1 A_171 6 Jf
def Je:=u0 A_171 7
def Jd:=u2 A_171 8 Pu Je
def Ah:=u1 A_171 9 Jd
def mE:=u1 A_171 10 Ah
def mD:=u1 A_171 11 mE
def DJ:=u1 A_171 12 mD
def agb:=u1 A_171 13 DJ
def TC:List bK:=[(.tmp 8)]
theorem aiZ:EG.cf 171=some ⟨110,TC,agb⟩:=r_
def A_172:=v_ (c_ 172)
def Jc:=u0 A_172 0
def Jb:=u1 A_172 1 Jc
def aga:=u1 A_172 2 Jb
def aeZ:List bK:=[(.tmp 2)]
theorem aiY:EG.cf 172=some ⟨21,aeZ,aga⟩:=r_
def A_178:=v_ (c_ 178)
def XB:=u0 A_178 0
def b282:=u1 A_178 1 XB
def r282:List bK:=[(.tmp 4)]
theorem cf282:EG.cf 178=some ⟨6,r282,b282⟩:=r_
def A_179:=v_ (c_ 179)
def Ic:=u0 A_179 0
def Ib:=u1 A_179 1 Ic
def b113:=u1 A_179 2 Ib
def akW:List bK:=[(.cell 4 true 5),(.cell 5 false 1)]
theorem cf113:EG.cf 179=some ⟨11,akW,b113⟩:=r_
def A_180:=v_ (c_ 180)
def Xn:=u0 A_180 0
def b327:=u1 A_180 1 Xn
def r327:List bK:=[(.cell 3 true 2),(.tmp 4)]
theorem cf327:EG.cf 180=some ⟨10,r327,b327⟩:=r_
def A_181:=v_ (c_ 181)
def Xm:=u0 A_181 0
def Xl:=u1 A_181 1 Xm
def Xk:=u1 A_181 2 Xl
def Zv:=u1 A_181 3 Xk
def Xj:=u0 A_181 4
def Xi:=u2 A_181 5 Zv Xj
def Xh:=u1 A_181 6 Xi
def Xg:=u1 A_181 7 Xh
def Xf:=u1 A_181 8 Xg
def Xe:=u1 A_181 9 Xf
def b328:=u1 A_181 10 Xe
def akP:List bK:=[(.cell 4 true 2),(.tmp 5)]
theorem cf328:EG.cf 181=some ⟨63,akP,b328⟩:=r_
def A_182:=v_ (c_ 182)
def Xq:=u0 A_182 0
def Xp:=u1 A_182 1 Xq
def HI:=u1 A_182 2 Xp
def Xo:=u1 A_182 3 HI
def b324:=u1 A_182 4 Xo
def akQ:List bK:=[(.cell 4 true 23),(.tmp 5),(.tmp 6)]
theorem cf324:EG.cf 182=some ⟨44,akQ,b324⟩:=r_
def A_185:=v_ (c_ 185)
def Ja:=u0 A_185 0
def Pt:=u1 A_185 1 Ja
def IZ:=u0 A_185 2
def Pq:=u1 A_185 3 IZ
def vu:=u0 A_185 4
def IY:=u3 A_185 5 Pt Pq vu
def IX:=u1 A_185 6 IY
def af9:=u1 A_185 7 IX
def Hb:List bK:=[(.cell 6 true 9)]
theorem aiX:EG.cf 185=some ⟨96,Hb,af9⟩:=r_
def A_189:=v_ (c_ 189)
def Po:=u0 A_189 0
def Ag:=u0 A_189 1
def IW:=u2 A_189 2 Po Ag
def IV:=u1 A_189 3 IW
def af8:=u1 A_189 4 IV
def aak:List bK:=[(.tmp 2),(.cell 3 true 5)]
theorem aiW:EG.cf 189=some ⟨27,aak,af8⟩:=r_
def A_190:=v_ (c_ 190)
def IU:=u0 A_190 0
def IT:=u1 A_190 1 IU
def af7:=u1 A_190 2 IT
def aeY:List bK:=[(.tmp 4)]
theorem aiV:EG.cf 190=some ⟨23,aeY,af7⟩:=r_
def A_193:=v_ (c_ 193)
def XN:=u0 A_193 0
def b238:=u1 A_193 1 XN
def r238:List bK:=[(.tmp 3)]
theorem cf238:EG.cf 193=some ⟨9,r238,b238⟩:=r_
def A_194:=v_ (c_ 194)
def Pn:=u0 A_194 0
def Af:=u0 A_194 1
def IS:=u2 A_194 2 Pn Af
def IP:=u1 A_194 3 IS
def af6:=u1 A_194 4 IP
def aaj:List bK:=[(.tmp 2)]
theorem aiU:EG.cf 194=some ⟨20,aaj,af6⟩:=r_
def A_195:=v_ (c_ 195)
def IN:=u0 A_195 0
def IM:=u1 A_195 1 IN
def Pm:=u1 A_195 2 IM
def IL:=u0 A_195 3
def Ae:=u2 A_195 4 Pm IL
def IK:=u1 A_195 5 Ae
def af5:=u1 A_195 6 IK
def TA:List bK:=[(.tmp 4)]
theorem aiT:EG.cf 195=some ⟨59,TA,af5⟩:=r_
def A_196:=v_ (c_ 196)
def abP:=u0 A_196 0
def abO:=u1 A_196 1 abP
def Pk:=u1 A_196 2 abO
def IJ:=u0 A_196 3
def II:=u2 A_196 4 Pk IJ
def IH:=u1 A_196 5 II
def af4:=u1 A_196 6 IH
def aai:List bK:=[(.tmp 4)]
theorem aiS:EG.cf 196=some ⟨74,aai,af4⟩:=r_
def A_199:=v_ (c_ 199)
def XA:=u0 A_199 0
def Xz:=u1 A_199 1 XA
def Xy:=u1 A_199 2 Xz
def Zy:=u1 A_199 3 Xy
def Xx:=u0 A_199 4
def Xw:=u1 A_199 5 Xx
def Xv:=u1 A_199 6 Xw
def Zx:=u1 A_199 7 Xv
def Xu:=sr [qf 15 0 2,ql 16 15] (.block 0 (.seq (sr [oq 18 (.bin .eql .num (.t 16) (xn 0)),qm 17 18] (.cond (.t 17) .skip (sr [oq 19 (.bin .eql .num (.t 16) (xn 1)),qm 17 19] (.cond (.t 17) .skip (.region [oq 20 (.bin .eql .num (.t 16) (xn 2)),qm 17 20]))))) (.cond (.t 17) (sr [oq 21 (.lit true false 1 [(i_ 0)] 3 [(0,(xn 0)),(1,(xn 1)),(2,(xn 2))]),qf 22 0 2,ql 23 22,qx 24 1 21 23,ql 25 24,qf 26 0 4,qs 1 26 25] (.region [qm 27 0,qf 28 1 2,ql 29 28,qL 30 9 4,oq 31 (.call (.t 27) [.t 29,.t 30])])) (sr [oq 33 (.bin .eql .num (.t 16) (xn 3)),qm 32 33] (.cond (.t 32) (sr [qf 34 0 4,⟨none,(.store 1 (.t 34) (xn 3)),none⟩] (.seq (sr [qm 35 0,qf 36 1 2,ql 37 36,qL 38 9 4,oq 39 (.call (.t 35) [.t 37,.t 38]),oq 40 (.un .not (.t 39))] (.cond (.t 40) .ret .skip)) (.seq (sr [qf 41 14 2,ql 42 41,qe 43 42,qi 44 0] (.block 1 (.loop Zy))) (.region [qm 62 0,qf 63 1 2,ql 64 63,oq 65 (.bin .add .num (.t 64) (.c (.str (bs [46,114,101,99])))),ql 66 1,oq 67 (.faddr 15 7 true (.t 2)),qf 68 0 67,ql 69 68,oq 70 (.faddr 15 7 true (.t 2)),oq 71 (.faddr 1 5 true (.t 70)),qL 72 5 71,oq 73 (.build [(i_ 0),(i_ 0),(i_ 0),(i_ 0),(i_ 0),(i_ 0),(.str (bs [])),.nl,.nl] [(0,1,(xn 5)),(1,1,(.t 66)),(3,1,(.t 69)),(4,5,(.t 72))]),oq 74 (.call (.t 62) [.t 65,.t 73])])))) (sr [oq 76 (.bin .eql .num (.t 16) (xn 4)),qm 75 76] (.cond (.t 75) (sr [qf 77 22 2,ql 78 77,qe 79 78,qi 80 0] (.block 3 (.loop Zx))) .skip)))))))
def b302:=u1 A_199 9 Xu
def r302:List bK:=[]
theorem cf302:EG.cf 199=some ⟨98,r302,b302⟩:=r_
def A_200:=v_ (c_ 200)
def HY:=u0 A_200 0
def ak3:=u1 A_200 1 HY
def r161:List bK:=[]
theorem afz:EG.cf 200=some ⟨9,r161,ak3⟩:=r_
def A_201:=v_ (c_ 201)
def aed:=u0 A_201 0
def aec:=u1 A_201 1 aed
def aeb:=u1 A_201 2 aec
def b84:=u1 A_201 3 aeb
def r84:List bK:=[(.tmp 2)]
theorem cf84:EG.cf 201=some ⟨14,r84,b84⟩:=r_
def A_202:=v_ (c_ 202)
def HV:=u0 A_202 0
def HU:=u1 A_202 1 HV
def HT:=u1 A_202 2 HU
def Yo:=u1 A_202 3 HT
def ZE:=u1 A_202 4 Yo
def Yn:=u0 A_202 5
def Ym:=u2 A_202 6 ZE Yn
def Yl:=u1 A_202 7 Ym
def b162:=u1 A_202 8 Yl
def r162:List bK:=[(.cell 5 true 5),(.tmp 6)]
theorem cf162:EG.cf 202=some ⟨39,r162,b162⟩:=r_
def A_203:=v_ (c_ 203)
def aea:=u0 A_203 0
def ad9:=u1 A_203 1 aea
def afR:=u1 A_203 2 ad9
def ad8:=u0 A_203 3
def ad7:=u2 A_203 4 afR ad8
def ad0:=u1 A_203 5 ad7
def b87:=u1 A_203 6 ad0
def r87:List bK:=[(.cell 2 true 5)]
theorem cf87:EG.cf 203=some ⟨33,r87,b87⟩:=r_
def b88:=v_ (c_ 204)
def r88:List bK:=[]
theorem cf88:EG.cf 204=some ⟨4,r88,b88⟩:=r_
def A_205:=v_ (c_ 205)
def ZY:=u0 A_205 0
def adZ:=u1 A_205 1 ZY
def afQ:=u1 A_205 2 adZ
def ZX:=u0 A_205 3
def adY:=u2 A_205 4 afQ ZX
def adX:=u1 A_205 5 adY
def adW:=u1 A_205 6 adX
def ZW:=u1 A_205 7 adW
def b90:=u1 A_205 8 ZW
def r90:List bK:=[(.cell 6 true 5)]
theorem cf90:EG.cf 205=some ⟨54,r90,b90⟩:=r_
def A_206:=v_ (c_ 206)
def Yk:=u0 A_206 0
def b163:=u1 A_206 1 Yk
def r163:List bK:=[(.tmp 2)]
theorem cf163:EG.cf 206=some ⟨6,r163,b163⟩:=r_
def A_207:=v_ (c_ 207)
def Xd:=u0 A_207 0
def Xc:=u1 A_207 1 Xd
def b329:=u1 A_207 2 Xc
def akO:List bK:=[(.tmp 2)]
theorem cf329:EG.cf 207=some ⟨22,akO,b329⟩:=r_
def A_208:=v_ (c_ 208)
def Yj:=u0 A_208 0
def b164:=u1 A_208 1 Yj
def r164:List bK:=[(.tmp 0)]
theorem cf164:EG.cf 208=some ⟨4,r164,b164⟩:=r_
def A_209:=v_ (c_ 209)
def HS:=u0 A_209 0
def b166:=u1 A_209 1 HS
def r166:List bK:=[]
theorem cf166:EG.cf 209=some ⟨24,r166,b166⟩:=r_
def A_210:=v_ (c_ 210)
def Yi:=u0 A_210 0
def Yh:=u1 A_210 1 Yi
def ZD:=u1 A_210 2 Yh
def Yg:=u1 A_210 3 ZD
def Yf:=u1 A_210 4 Yg
def b165:=u1 A_210 5 Yf
def r165:List bK:=[]
theorem cf165:EG.cf 210=some ⟨39,r165,b165⟩:=r_
def A_211:=v_ (c_ 211)
def Ye:=u0 A_211 0
def Yc:=u1 A_211 1 Ye
def ZC:=u1 A_211 2 Yc
def Yb:=u0 A_211 3
def Ya:=u2 A_211 4 ZC Yb
def XZ:=u1 A_211 5 Ya
def b167:=u1 A_211 6 XZ
def r167:List bK:=[(.cell 2 true 2),(.tmp 3)]
theorem cf167:EG.cf 211=some ⟨41,r167,b167⟩:=r_
def A_219:=v_ (c_ 219)
def YE:=u0 A_219 0
def YD:=u1 A_219 1 YE
def b128:=u1 A_219 2 YD
def r128:List bK:=[(.tmp 4)]
theorem cf128:EG.cf 219=some ⟨26,r128,b128⟩:=r_
def A_220:=v_ (c_ 220)
def XP:=u0 A_220 0
def b208:=u1 A_220 1 XP
def r208:List bK:=[(.tmp 2)]
theorem cf208:EG.cf 220=some ⟨6,r208,b208⟩:=r_
def A_222:=v_ (c_ 222)
def XO:=u0 A_222 0
def b210:=u1 A_222 1 XO
def r210:List bK:=[(.tmp 2)]
theorem cf210:EG.cf 222=some ⟨4,r210,b210⟩:=r_
def A_223:=v_ (c_ 223)
def XW:=u0 A_223 0
def XV:=u1 A_223 1 XW
def XU:=u1 A_223 2 XV
def ZB:=u1 A_223 3 XU
def HR:=u0 A_223 4
def XT:=u1 A_223 5 HR
def XS:=u1 A_223 6 XT
def XR:=u2 A_223 7 ZB XS
def b199:=u1 A_223 8 XR
def adF:List bK:=[(.cell 2 true 2),(.tmp 3)]
theorem cf199:EG.cf 223=some ⟨26,adF,b199⟩:=r_
def A_137:=v_ (c_ 137)
def XM:=u0 A_137 0
def XL:=u1 A_137 1 XM
def XK:=u1 A_137 2 XL
def ZA:=u1 A_137 3 XK
def XJ:=u0 A_137 4
def XI:=u2 A_137 5 ZA XJ
def b239:=u1 A_137 6 XI
def akS:List bK:=[(.tmp 4)]
theorem cf239:EG.cf 137=some ⟨19,akS,b239⟩:=r_
end
