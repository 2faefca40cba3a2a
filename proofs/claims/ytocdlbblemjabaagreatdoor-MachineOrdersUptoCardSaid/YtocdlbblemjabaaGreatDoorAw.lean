/- Lemmas for MachineOrders (no condition). -/
import Derived.Test.YtocdlbblemjabaaGreatDoorProg
import Derived.Test.YtocdlbblemjabaaGreatDoorAs
import Derived.Test.YtocdlbblemjabaaGreatDoorAv
import Derived.KernelRfl
set_option linter.defProp false
noncomputable section
namespace Go.Proofs.YtocdlbblemjabaaGreatDoor
open Go.AG Go.AG.MK
def r_{p:Prop}(h:p:=by kernel_rfl):p:=h
abbrev oq (d:Nat)(x:AOp):aX:=⟨some d,x,none⟩
abbrev og (d:Nat)(x:AOp)(g:Nat)(b:Bool):aX:=⟨some d,x,some (g,b)⟩
abbrev zT:List AV:=[i_ 0,i_ 0,.str (bs []),.nl,.nl]
abbrev xn (v:Int):AX:=.c (i_ v)
abbrev xm (s:Nat):AOp:=.mv (.t s)
abbrev xf (a p:Nat):AOp:=.faddr a 1 false (.t p)
abbrev xl (p:Nat):AOp:=.load false 1 (.t p)
abbrev xL (n p:Nat):AOp:=.load true n (.t p)
abbrev xe (p:Nat):AOp:=.builtin (.len 1) [.t p]
abbrev xx (n a b:Nat):AOp:=.iaddr n (.t a) (.t b)
abbrev xc (f:Nat)(l:List AX):AOp:=.call (.c (.fn f [] [])) l
abbrev qm (d s:Nat):aX:=⟨some d,.mv (.t s),none⟩
abbrev qf (d a p:Nat):aX:=⟨some d,.faddr a 1 false (.t p),none⟩
abbrev ql (d p:Nat):aX:=⟨some d,.load false 1 (.t p),none⟩
abbrev qL (d n p:Nat):aX:=⟨some d,.load true n (.t p),none⟩
abbrev qe (d p:Nat):aX:=⟨some d,.builtin (.len 1) [.t p],none⟩
abbrev qx (d n a b:Nat):aX:=⟨some d,.iaddr n (.t a) (.t b),none⟩
abbrev qc (d f:Nat)(l:List AX):aX:=⟨some d,.call (.c (.fn f [] [])) l,none⟩
abbrev qi (d:Nat)(v:Int):aX:=⟨some d,.mv (.c (i_ v)),none⟩
abbrev qb (d:Nat)(v:Bool):aX:=⟨some d,.mv (.c (.bool v)),none⟩
abbrev qa (d p:Nat)(v:Int):aX:=⟨some d,.bin .add .num (.t p) (.c (i_ v)),none⟩
abbrev qlt (d a b:Nat):aX:=⟨some d,.bin .lss .num (.t a) (.t b),none⟩
abbrev qo (d a b:Nat):aX:=⟨some d,.pick (.t a) (.c (.bool true)) (.t b),none⟩
abbrev qd (d a b:Nat):aX:=⟨some d,.pick (.t a) (.t b) (.c (.bool false)),none⟩
abbrev qz (d:Nat):aX:=⟨some d,.new zT,none⟩
abbrev qs (n a b:Nat):aX:=⟨none,.store n (.t a) (.t b),none⟩
abbrev sr (l:List aX)(c:bu):bu:=.seq (.region l) c
abbrev dq (o:aX)(a b:Nat)(c:Bool):aX×DI:=(o,⟨a,b,c⟩)
def EG:AG.Env:=abz Tryz.prog
set_option maxRecDepth 100000
set_option maxHeartbeats 0
def c_ (f:Nat):bu:=match EG f with|some x=>x.body|_=>.skip
def p_:Nat->bu->List bu
|m,.seq a b=>p_ 0 a++p_ (if m=0 then 0 else 2) b++if m=2 then [.seq a b] else []
|_,.cond _ a b=>p_ 0 a++p_ 0 b
|_,.block _ a=>p_ 1 a
|_,.loop a=>p_ 1 a++[a]
|_,.scope a=>p_ 0 a
|_,.rangeFunc _ _ a b=>p_ 0 a++[a]++p_ 1 b++[b]
|_,_=>[]
def f_:Nat->bu->List bu->(bu->List bu->bu)->bu
|m,.seq a b,l,k=>f_ 0 a l λa l=>if m=0 then f_ 0 b l λb=>k (.seq a b) else match b with
 |.seq _ _=>match l with
  |c::l=>k (.seq a c) l
  |_=>.skip
 |b=>f_ 0 b l λb=>k (.seq a b)
|_,.cond x a b,l,k=>f_ 0 a l λa l=>f_ 0 b l λb=>k (.cond x a b)
|_,.block i a,l,k=>f_ 1 a l λa=>k (.block i a)
|_,.loop _,c::l,k=>k (.loop c) l
|_,.scope a,l,k=>f_ 0 a l λa=>k (.scope a)
|_,c,l,k=>k c l
def w_ (c:bu) (k:Nat):bu:=((p_ 1 c++[c])[k]?).getD .skip
def x_ (c:bu) (k:Nat) (l:List bu):bu:=f_ 1 (w_ c k) l λx _=>x
def b_:ByteArray.mk (Array.mk [])=bs []:=rfl
abbrev v_ (x:bu) {y:bu} (_:y=x:=by conv=>rhs;reduce;try simp only[simprocAttr,b_]):bu:=y
abbrev u1 (c:bu) (k:Nat) (b:bu) {y:bu->bu} (_:y=λb=>x_ c k [b]:=by conv=>rhs;reduce;try simp only[simprocAttr,b_]):=y b
abbrev u2 (c:bu) (k:Nat) (b d:bu) {y:bu->bu->bu} (_:y=λb d=>x_ c k [b,d]:=by conv=>rhs;reduce;try simp only[simprocAttr,b_]):=y b d
abbrev u3 (c:bu) (k:Nat) (b d e:bu) {y:bu->bu->bu->bu} (_:y=λb d e=>x_ c k [b,d,e]:=by conv=>rhs;reduce;try simp only[simprocAttr,b_]):=y b d e
def acp:=v_ (c_ 8)
def QL:List bG:=[(.cell 2 true 1),(.tmp 3),(.tmp 4)]
def af2:EG 8=some ⟨68,QL,acp⟩:=r_
def A_13:=v_ (c_ 13)
def aax:=v_ (w_ A_13 0)
def ab7:=u1 A_13 1 aax
def aaw:=v_ (w_ A_13 2)
def aav:=u2 A_13 3 ab7 aaw
def aau:=u1 A_13 4 aav
def b29:=u1 A_13 5 aau
def r29:List bG:=[(.tmp 2)]
def cf29:EG 13=some ⟨22,r29,b29⟩:=r_
abbrev b1019:=v_ (c_ 19)
def abq:List bG:=[(.tmp 4)]
def afZ:EG 19=some ⟨26,abq,b1019⟩:=r_
abbrev b24:=v_ (c_ 22)
def r24:List bG:=[(.tmp 4)]
def cf24:EG 22=some ⟨29,r24,b24⟩:=r_
abbrev b1023:=v_ (c_ 23)
def Wx:List bG:=[(.tmp 2)]
def afY:EG 23=some ⟨18,Wx,b1023⟩:=r_
abbrev b1024:=v_ (c_ 24)
def Ww:List bG:=[(.tmp 2)]
def afX:EG 24=some ⟨15,Ww,b1024⟩:=r_
abbrev b1025:=v_ (c_ 25)
def Wv:List bG:=[(.tmp 4)]
def afW:EG 25=some ⟨21,Wv,b1025⟩:=r_
abbrev b1026:=v_ (c_ 26)
def abp:List bG:=[(.cell 4 true 1),(.tmp 5),(.tmp 6)]
def afV:EG 26=some ⟨20,abp,b1026⟩:=r_
abbrev b11:=v_ (c_ 28)
def r11:List bG:=[(.tmp 4)]
def cf11:EG 28=some ⟨61,r11,b11⟩:=r_
abbrev b1029:=v_ (c_ 29)
def Fq:List bG:=[(.cell 8 true 1),(.cell 9 false 1),(.cell 10 false 1)]
def afT:EG 29=some ⟨30,Fq,b1029⟩:=r_
def A_31:=v_ (c_ 31)
def vM:=v_ (w_ A_31 3)
def rK:=v_ (w_ A_31 10)
abbrev b1031:=u1 A_31 14 (u1 A_31 13 (u1 A_31 12 (u2 A_31 11 (u1 A_31 6 (u1 A_31 5 (u1 A_31 4 vM))) rK)))
def JK:List bG:=[(.tmp 4)]
def afS:EG 31=some ⟨153,JK,b1031⟩:=r_
abbrev b1035:=v_ (c_ 35)
def abm:List bG:=[(.tmp 4)]
def afR:EG 35=some ⟨41,abm,b1035⟩:=r_
abbrev b1040:=v_ (c_ 40)
def abj:List bG:=[(.tmp 2)]
def afM:EG 40=some ⟨60,abj,b1040⟩:=r_
abbrev b1041:=v_ (c_ 41)
def abi:List bG:=[(.tmp 4)]
def afL:EG 41=some ⟨32,abi,b1041⟩:=r_
abbrev b6:=v_ (c_ 44)
def r6:List bG:=[(.tmp 2)]
def cf6:EG 44=some ⟨36,r6,b6⟩:=r_
abbrev b7:=v_ (c_ 45)
def r7:List bG:=[(.tmp 10)]
def cf7:EG 45=some ⟨28,r7,b7⟩:=r_
def A_46:=v_ (c_ 46)
def Ee:=v_ (w_ A_46 2)
abbrev b1046:=u1 A_46 4 (u2 A_46 3 (v_ (w_ A_46 1)) Ee)
def QK:List bG:=[(.tmp 2)]
def afK:EG 46=some ⟨23,QK,b1046⟩:=r_
abbrev b1047:=v_ (c_ 47)
def Wt:List bG:=[(.tmp 2),(.tmp 3)]
def afJ:EG 47=some ⟨27,Wt,b1047⟩:=r_
abbrev b111:=v_ (c_ 48)
def r111:List bG:=[(.tmp 4)]
def cf111:EG 48=some ⟨9,r111,b111⟩:=r_
abbrev b1049:=v_ (c_ 49)
def QJ:List bG:=[(.tmp 2)]
def afI:EG 49=some ⟨6,QJ,b1049⟩:=r_
abbrev b1050:=v_ (c_ 50)
def Ws:List bG:=[(.tmp 2)]
def afH:EG 50=some ⟨12,Ws,b1050⟩:=r_
def A_51:=v_ (c_ 51)
def Mj:=v_ (w_ A_51 0)
def Mi:=u1 A_51 1 Mj
def Mh:=u1 A_51 2 Mi
def aco:=u1 A_51 3 Mh
def abh:List bG:=[(.cell 4 true 1),(.tmp 5),(.tmp 6)]
def afG:EG 51=some ⟨22,abh,aco⟩:=r_
abbrev b47:=v_ (c_ 55)
def r47:List bG:=[(.tmp 4)]
def cf47:EG 55=some ⟨27,r47,b47⟩:=r_
abbrev b1056:=v_ (c_ 56)
def abe:List bG:=[(.tmp 4)]
def Vb:EG 56=some ⟨9,abe,b1056⟩:=r_
abbrev b1057:=v_ (c_ 57)
def abd:List bG:=[]
def Va:EG 57=some ⟨10,abd,b1057⟩:=r_
abbrev b1058:=v_ (c_ 58)
def abc:List bG:=[(.tmp 2)]
def afC:EG 58=some ⟨14,abc,b1058⟩:=r_
abbrev b1059:=v_ (c_ 59)
def abb:List bG:=[(.tmp 4)]
def afB:EG 59=some ⟨28,abb,b1059⟩:=r_
abbrev b1060:=v_ (c_ 60)
def aba:List bG:=[(.tmp 4),(.tmp 5)]
def afA:EG 60=some ⟨46,aba,b1060⟩:=r_
abbrev b1061:=v_ (c_ 61)
def aa9:List bG:=[]
def afz:EG 61=some ⟨15,aa9,b1061⟩:=r_
abbrev b1062:=v_ (c_ 62)
def aa8:List bG:=[(.tmp 6)]
def afy:EG 62=some ⟨11,aa8,b1062⟩:=r_
abbrev b1063:=v_ (c_ 63)
def aa7:List bG:=[(.tmp 6)]
def afx:EG 63=some ⟨12,aa7,b1063⟩:=r_
def A_64:=v_ (c_ 64)
def Ec:=v_ (w_ A_64 0)
def Mg:=u1 A_64 1 Ec
def zq:=u1 A_64 2 Mg
def Mf:=u1 A_64 3 zq
def acn:=u1 A_64 4 Mf
def Wp:List bG:=[(.tmp 6),(.tmp 7),(.tmp 8)]
def afw:EG 64=some ⟨64,Wp,acn⟩:=r_
abbrev b1065:=v_ (c_ 65)
def aa6:List bG:=[]
def afv:EG 65=some ⟨15,aa6,b1065⟩:=r_
abbrev b1066:=sr [oq 2 (.mv (.c .nl))] (sr [qi 3 0] (.seq (sr [qm 9 0,qe 10 9,qi 11 0] (.block 0 (.loop (sr [qlt 12 11 10] (.seq (.cond (.t 12) .skip (.exit 0)) (.seq (.block 1 (sr [qx 13 1 9 11,ql 14 13,qm 5 14] (sr [qm 15 3,qm 16 5,qe 17 16,oq 18 (.bin .add .num (.t 15) (.t 17)),qm 3 18] (sr [qm 19 3,oq 20 (.bin .lss .num (.t 19) (xn 0))] (.cond (.t 20) (.region [oq 21 (.mkIface 9 (.c (.str (bs [108,101,110,32,111,117,116,32,111,102,32,114,97,110,103,101])))),⟨none,(.panic (.t 21)),none⟩]) .skip))))) (.region [qa 22 11 1,qm 11 22]))))))) (sr [qm 23 3,qc 24 107 [(.c .nl),.t 23],qm 6 24] (.seq (sr [qm 25 0,qe 26 25,qi 27 0] (.block 2 (.loop (sr [qlt 28 27 26] (.seq (.cond (.t 28) .skip (.exit 2)) (.seq (.block 3 (sr [qx 29 1 25 27,ql 30 29,qm 8 30] (.region [qm 31 6,qm 32 8,oq 33 (.builtin (.append 1 false [(i_ 0)] 8) [.t 31,.t 32]),qm 6 33]))) (.region [qa 34 27 1,qm 27 34]))))))) (sr [qm 35 6,qm 2 35] .ret)))))
def aa5:List bG:=[(.tmp 2)]
def afu:EG 66=some ⟨36,aa5,b1066⟩:=r_
abbrev b1067:=v_ (c_ 67)
def aa4:List bG:=[(.tmp 6)]
def aft:EG 67=some ⟨22,aa4,b1067⟩:=r_
abbrev b1073:=v_ (c_ 73)
def aa2:List bG:=[(.tmp 6)]
def afq:EG 73=some ⟨69,aa2,b1073⟩:=r_
abbrev b1078:=v_ (c_ 78)
def aa0:List bG:=[(.tmp 2)]
def afm:EG 78=some ⟨34,aa0,b1078⟩:=r_
abbrev b1079:=v_ (c_ 79)
def Wm:List bG:=[(.tmp 4)]
def afl:EG 79=some ⟨60,Wm,b1079⟩:=r_
abbrev b25:=v_ (c_ 82)
def r25:List bG:=[(.tmp 4)]
def cf25:EG 82=some ⟨9,r25,b25⟩:=r_
abbrev b26:=v_ (c_ 83)
def r26:List bG:=[(.tmp 2)]
def cf26:EG 83=some ⟨7,r26,b26⟩:=r_
def A_84:=v_ (c_ 84)
def VN:=v_ (w_ A_84 7)
def Ff:=u1 A_84 8 VN
def Fe:=u1 A_84 9 Ff
def Kj:=u1 A_84 11 (u2 A_84 10 (v_ (w_ A_84 2)) Fe)
abbrev b27:=u1 A_84 14 (u1 A_84 13 (u1 A_84 12 Kj))
def r27:List bG:=[(.tmp 12)]
def cf27:EG 84=some ⟨107,r27,b27⟩:=r_
def A_85:=v_ (c_ 85)
def aaB:=v_ (w_ A_85 0)
def ab8:=u1 A_85 1 aaB
def aaA:=v_ (w_ A_85 2)
def aaz:=u2 A_85 3 ab8 aaA
def aay:=u1 A_85 4 aaz
def b28:=u1 A_85 5 aay
def r28:List bG:=[(.tmp 2)]
def cf28:EG 85=some ⟨21,r28,b28⟩:=r_
def A_86:=v_ (c_ 86)
def zp:=v_ (w_ A_86 0)
def Nt:=u1 A_86 1 zp
def LZ:=v_ (w_ A_86 2)
def Ns:=u1 A_86 3 LZ
def vL:=v_ (w_ A_86 4)
def Nr:=u1 A_86 5 vL
def LY:=v_ (w_ A_86 6)
def Ea:=u2 A_86 7 Nr LY
def DZ:=u2 A_86 8 Ns Ea
def DY:=u2 A_86 9 Nt DZ
def jY:=u1 A_86 10 DY
def acm:=u1 A_86 11 jY
def Fm:List bG:=[(.tmp 2)]
def afk:EG 86=some ⟨124,Fm,acm⟩:=r_
abbrev b1087:=v_ (c_ 87)
def Wl:List bG:=[(.tmp 4)]
def afj:EG 87=some ⟨32,Wl,b1087⟩:=r_
abbrev b160:=v_ (c_ 88)
def r160:List bG:=[(.tmp 4)]
def cf160:EG 88=some ⟨19,r160,b160⟩:=r_
def A_89:=v_ (c_ 89)
def LX:=v_ (w_ A_89 0)
def Np:=u1 A_89 1 LX
def DX:=v_ (w_ A_89 2)
def LW:=u2 A_89 3 Np DX
def LU:=u1 A_89 4 LW
def ack:=u1 A_89 5 LU
def Wj:List bG:=[(.tmp 4)]
def afi:EG 89=some ⟨29,Wj,ack⟩:=r_
def A_90:=v_ (c_ 90)
def LS:=v_ (w_ A_90 0)
def No:=u1 A_90 1 LS
def LR:=v_ (w_ A_90 2)
def LP:=u2 A_90 3 No LR
def LO:=u1 A_90 4 LP
def LN:=u1 A_90 5 LO
def acj:=u1 A_90 6 LN
def aaZ:List bG:=[(.tmp 4)]
def afh:EG 90=some ⟨28,aaZ,acj⟩:=r_
abbrev b1091:=v_ (c_ 91)
def Wi:List bG:=[(.tmp 2)]
def afg:EG 91=some ⟨21,Wi,b1091⟩:=r_
def A_92:=v_ (c_ 92)
def zo:=v_ (w_ A_92 7)
abbrev b1092:=u1 A_92 9 (u1 A_92 8 zo)
def QI:List bG:=[(.cell 4 true 1),(.tmp 5)]
def aff:EG 92=some ⟨62,QI,b1092⟩:=r_
abbrev b58:=sr [oq 2 (.box 2 (.t 0)),oq 3 (.box 2 (.t 1)),qb 4 false] (.seq (sr [qf 6 0 2,ql 7 6,qf 8 0 3,ql 9 8,oq 10 (.bin .neq .num (.t 7) (.t 9)),qm 11 10,og 12 (xf 1 2) 11 false,og 13 (xl 12) 11 false,og 14 (xe 13) 11 false,og 15 (xf 1 3) 11 false,og 16 (xl 15) 11 false,og 17 (xe 16) 11 false,og 18 (.bin .neq .num (.t 14) (.t 17)) 11 false,qo 19 11 18] (.cond (.t 19) (sr [qb 4 false] .ret) .skip)) (.seq (sr [qi 5 0] (.block 0 (.loop (.seq (sr [qm 20 5,qf 21 1 2,ql 22 21,qe 23 22,qlt 24 20 23] (.cond (.t 24) .skip (.exit 0))) (.seq (.block 1 (.seq (.draw [dq (qf 27 1 2) 0 0 false,dq (ql 28 27) 0 0 false,dq (qm 29 5) 0 0 false,dq (qx 30 2 28 29) 0 0 false,dq (qL 31 2 30) 0 0 false,dq (qf 32 1 3) 0 0 false,dq (ql 33 32) 0 0 false,dq (qm 34 5) 0 0 true,dq (qx 35 2 33 34) 0 0 true,dq (qL 36 2 35) 0 0 true,dq (oq 37 (.bin .neq (.struct [(0,1),(1,1)]) (.t 31) (.t 36))) 0 0 true]) (.cond (.t 37) (sr [qb 4 false] .ret) .skip))) (.region [qm 25 5,qa 26 25 1,qm 5 26])))))) (sr [qb 4 true] .ret)))
def r58:List bG:=[(.tmp 4)]
def cf58:EG 93=some ⟨38,r58,b58⟩:=r_
abbrev b193:=v_ (c_ 94)
def r193:List bG:=[(.tmp 4)]
def cf193:EG 94=some ⟨9,r193,b193⟩:=r_
abbrev b1095:=v_ (c_ 95)
def aaY:List bG:=[(.tmp 3)]
def afe:EG 95=some ⟨13,aaY,b1095⟩:=r_
def A_96:=v_ (c_ 96)
def vK:=v_ (w_ A_96 8)
abbrev b1096:=u1 A_96 14 (u1 A_96 13 (u1 A_96 12 (u1 A_96 11 (u1 A_96 10 (u1 A_96 9 vK)))))
def QH:List bG:=[(.tmp 4)]
def UZ:EG 96=some ⟨97,QH,b1096⟩:=r_
def A_97:=v_ (c_ 97)
def LM:=v_ (w_ A_97 0)
def Nn:=u1 A_97 1 LM
def aci:=u1 A_97 2 Nn
def aaX:List bG:=[]
def afd:EG 97=some ⟨28,aaX,aci⟩:=r_
abbrev b1098:=v_ (c_ 98)
def aaW:List bG:=[]
def afc:EG 98=some ⟨1,aaW,b1098⟩:=r_
def A_99:=v_ (c_ 99)
def LK:=v_ (w_ A_99 0)
def LJ:=u1 A_99 1 LK
def LI:=u1 A_99 2 LJ
def LH:=u1 A_99 3 LI
def WW:=u1 A_99 4 LH
def We:List bG:=[(.tmp 8)]
def afb:EG 99=some ⟨17,We,WW⟩:=r_
abbrev b1100:=v_ (c_ 100)
def aaV:List bG:=[(.tmp 6)]
def afa:EG 100=some ⟨26,aaV,b1100⟩:=r_
abbrev b1101:=v_ (c_ 101)
def aaU:List bG:=[(.tmp 6)]
def ae9:EG 101=some ⟨14,aaU,b1101⟩:=r_
abbrev b1102:=v_ (c_ 102)
def aaT:List bG:=[(.tmp 4)]
def ae8:EG 102=some ⟨16,aaT,b1102⟩:=r_
abbrev b1103:=v_ (c_ 103)
def QG:List bG:=[(.cell 4 true 9),(.tmp 5)]
def ae7:EG 103=some ⟨33,QG,b1103⟩:=r_
abbrev b1104:=v_ (c_ 104)
def aaS:List bG:=[(.tmp 6),(.tmp 7)]
def ae6:EG 104=some ⟨21,aaS,b1104⟩:=r_
abbrev b1105:=v_ (c_ 105)
def Wd:List bG:=[(.tmp 8),(.tmp 9),(.tmp 10)]
def ae5:EG 105=some ⟨109,Wd,b1105⟩:=r_
abbrev b1106:=v_ (c_ 106)
def Wc:List bG:=[(.tmp 8),(.tmp 9),(.tmp 10)]
def ae4:EG 106=some ⟨111,Wc,b1106⟩:=r_
def A_120:=v_ (c_ 120)
def Ko:=v_ (w_ A_120 5)
abbrev b135:=u1 A_120 7 (u1 A_120 6 Ko)
def agH:List bG:=[(.tmp 2)]
def cf135:EG 120=some ⟨65,agH,b135⟩:=r_
abbrev b109:=v_ (c_ 121)
def r109:List bG:=[(.tmp 4)]
def cf109:EG 121=some ⟨9,r109,b109⟩:=r_
abbrev b68:=v_ (c_ 124)
def r68:List bG:=[(.tmp 4)]
def cf68:EG 124=some ⟨19,r68,b68⟩:=r_
def A_125:=v_ (c_ 125)
def JB:=v_ (w_ A_125 1)
def JA:=u1 A_125 2 JB
abbrev b69:=u1 A_125 5 (u1 A_125 4 (u1 A_125 3 JA))
def r69:List bG:=[(.tmp 2)]
def cf69:EG 125=some ⟨57,r69,b69⟩:=r_
abbrev b70:=v_ (c_ 126)
def r70:List bG:=[(.tmp 2)]
def cf70:EG 126=some ⟨45,r70,b70⟩:=r_
abbrev b71:=v_ (c_ 127)
def r71:List bG:=[(.tmp 6)]
def cf71:EG 127=some ⟨61,r71,b71⟩:=r_
abbrev b72:=v_ (c_ 128)
def r72:List bG:=[(.tmp 4)]
def cf72:EG 128=some ⟨27,r72,b72⟩:=r_
abbrev b1129:=v_ (c_ 129)
def QC:List bG:=[(.tmp 2)]
def aeT:EG 129=some ⟨11,QC,b1129⟩:=r_
abbrev b1130:=v_ (c_ 130)
def Wb:List bG:=[(.tmp 4)]
def aeS:EG 130=some ⟨47,Wb,b1130⟩:=r_
def A_131:=v_ (c_ 131)
def qG:=v_ (w_ A_131 1)
def DU:=u1 A_131 2 qG
abbrev b1131:=u1 A_131 4 (u1 A_131 3 DU)
def JF:List bG:=[(.tmp 2)]
def aeR:EG 131=some ⟨87,JF,b1131⟩:=r_
def A_132:=v_ (c_ 132)
def zi:=v_ (w_ A_132 3)
def DT:=u2 A_132 4 (v_ (w_ A_132 1)) zi
def DQ:=u1 A_132 5 DT
abbrev b1132:=u1 A_132 7 (u1 A_132 6 DQ)
def Fk:List bG:=[(.tmp 2)]
def aeQ:EG 132=some ⟨96,Fk,b1132⟩:=r_
abbrev b1133:=v_ (c_ 133)
def Wa:List bG:=[(.tmp 4)]
def aeP:EG 133=some ⟨44,Wa,b1133⟩:=r_
def mU:bu:=(.seq (sr [qf 32 0 3,ql 33 32] (.block 0 (.seq (sr [oq 35 (.bin .eql .num (.t 33) (xn 1)),qm 34 35] (.cond (.t 34) .skip (.region [oq 36 (.bin .eql .num (.t 33) (xn 2)),qm 34 36]))) (.cond (.t 34) (sr [qL 37 25 5,oq 38 (.faddr 8 5 true (.t 3)),qL 39 5 38,qf 40 2 3,ql 41 40,qc 42 170 [.t 37,.t 39,(xn 0),.t 41],qm 4 42] .ret) (sr [oq 44 (.bin .eql .num (.t 33) (xn 3)),qm 43 44] (.cond (.t 43) (sr [qf 45 1 3,ql 46 45,oq 47 (.lit false 1 [(.str (bs []))] 1 [(0,(.t 46))]),qf 48 1 5,qs 1 48 47] (.seq (sr [qi 7 0] (.block 1 (.loop (.seq (sr [qm 49 7,qf 50 14 3,ql 51 50,qe 52 51,qlt 53 49 52] (.cond (.t 53) .skip (.exit 1))) (.seq (.block 2 (.seq (.draw [dq (qL 56 25 5) 0 0 false,dq (qf 57 14 3) 0 0 false,dq (ql 58 57) 0 0 false,dq (qm 59 7) 0 0 false,dq (qx 60 6 58 59) 0 0 false,dq (oq 61 (.faddr 1 5 true (.t 60))) 0 0 false,dq (qL 62 5 61) 0 0 false,dq (qf 63 2 3) 0 0 true,dq (ql 64 63) 0 0 true,dq (qc 65 170 [.t 56,.t 62,(xn 0),.t 64]) 0 1 true,dq (qm 8 65) 1 1 true]) (sr [qm 66 8,oq 67 (.bin .neq .num (.t 66) (xn 0))] (.cond (.t 67) (sr [qm 68 8,qm 4 68] .ret) .skip)))) (.region [qm 54 7,qa 55 54 1,qm 7 55])))))) (sr [qL 69 23 3,qc 70 168 [.t 69],qm 9 70] (sr [qm 71 9,qm 72 9,qe 73 72,oq 74 (.bin .sub .num (.t 73) (xn 1)),oq 75 (.slice 1 (.t 71) none (some (.t 74))),qf 76 1 5,qs 1 76 75] (.seq (sr [qL 77 25 5,oq 78 (.faddr 15 7 true (.t 3)),oq 79 (.faddr 1 5 true (.t 78)),qL 80 5 79,oq 81 (.faddr 15 7 true (.t 3)),qf 82 0 81,ql 83 82,qc 84 170 [.t 77,.t 80,(xn 0),.t 83],qm 10 84] (sr [qm 85 10,oq 86 (.bin .neq .num (.t 85) (xn 0))] (.cond (.t 86) (sr [qm 87 10,qm 4 87] .ret) .skip))) (sr [qm 88 9,qf 89 1 5,qs 1 89 88] (sr [qi 11 0] (.block 3 (.loop (.seq (sr [qm 90 11,oq 91 (.faddr 15 7 true (.t 3)),qf 92 6 91,ql 93 92,qe 94 93,qlt 95 90 94] (.cond (.t 95) .skip (.exit 3))) (.seq (.block 4 (.seq (.draw [dq (qL 98 25 5) 0 0 false,dq (oq 99 (.faddr 15 7 true (.t 3))) 0 0 false,dq (qf 100 6 99) 0 0 false,dq (ql 101 100) 0 0 false,dq (qm 102 11) 0 0 false,dq (qx 103 5 101 102) 0 0 false,dq (qL 104 5 103) 0 0 false,dq (oq 105 (.faddr 15 7 true (.t 3))) 0 0 true,dq (qf 106 0 105) 0 0 true,dq (ql 107 106) 0 0 true,dq (qc 108 170 [.t 98,.t 104,(xn 0),.t 107]) 0 1 true,dq (qm 12 108) 1 1 true]) (sr [qm 109 12,oq 110 (.bin .neq .num (.t 109) (xn 0))] (.cond (.t 110) (sr [qm 111 12,qm 4 111] .ret) .skip)))) (.region [qm 96 11,qa 97 96 1,qm 11 97])))))))))))) (sr [oq 113 (.bin .eql .num (.t 33) (xn 4)),qm 112 113] (.cond (.t 112) (.seq (sr [qi 13 0] (.block 5 (.loop (.seq (sr [qm 114 13,qf 115 22 3,ql 116 115,qe 117 116,qlt 118 114 117] (.cond (.t 118) .skip (.exit 5))) (.seq (.block 6 (.seq (.draw [dq (qL 121 25 5) 0 0 false,dq (qf 122 22 3) 0 0 false,dq (ql 123 122) 0 0 false,dq (qm 124 13) 0 0 false,dq (qx 125 15 123 124) 0 0 false,dq (oq 126 (.faddr 1 5 true (.t 125))) 0 0 false,dq (qL 127 5 126) 0 0 false,dq (qf 128 2 3) 0 0 true,dq (ql 129 128) 0 0 true,dq (qc 130 170 [.t 121,.t 127,(xn 0),.t 129]) 0 1 true,dq (qm 14 130) 1 1 true]) (sr [qm 131 14,oq 132 (.bin .neq .num (.t 131) (xn 0))] (.cond (.t 132) (sr [qm 133 14,qm 4 133] .ret) .skip)))) (.region [qm 119 13,qa 120 119 1,qm 13 120])))))) (sr [qL 134 23 3,qc 135 168 [.t 134],qf 136 1 5,qs 1 136 135] (sr [qi 15 0] (.block 7 (.loop (.seq (sr [qm 137 15,qf 138 22 3,ql 139 138,qe 140 139,qlt 141 137 140] (.cond (.t 141) .skip (.exit 7))) (.seq (.block 8 (.seq (.draw [dq (qL 144 25 5) 0 0 false,dq (qf 145 22 3) 0 0 false,dq (ql 146 145) 0 0 false,dq (qm 147 15) 0 0 false,dq (qx 148 15 146 147) 0 0 false,dq (oq 149 (.faddr 7 8 true (.t 148))) 0 0 false,dq (qL 150 8 149) 0 0 false,dq (qf 151 22 3) 0 0 false,dq (ql 152 151) 0 0 false,dq (qm 153 15) 0 0 true,dq (qx 154 15 152 153) 0 0 true,dq (qf 155 6 154) 0 0 true,dq (ql 156 155) 0 0 true,dq (qc 157 171 [.t 144,.t 150,.t 156,(xn 0)]) 0 1 true,dq (qm 16 157) 1 1 true]) (sr [qm 158 16,oq 159 (.bin .neq .num (.t 158) (xn 0))] (.cond (.t 159) (sr [qm 160 16,qm 4 160] .ret) .skip)))) (.region [qm 142 15,qa 143 142 1,qm 15 143])))))))) .skip)))))))) (sr [qi 4 0] .ret))
def A_134:=v_ (c_ 134)
abbrev b1134:=u1 A_134 16 (u1 A_134 15 (u1 A_134 14 mU))
def QB:List bG:=[(.tmp 4)]
def aeO:EG 134=some ⟨161,QB,b1134⟩:=r_
def A_135:=v_ (c_ 135)
def vG:=v_ (w_ A_135 3)
def ku:=u1 A_135 4 vG
abbrev b1135:=u1 A_135 8 (u1 A_135 7 (u2 A_135 6 (v_ (w_ A_135 1)) (u1 A_135 5 ku)))
def Fj:List bG:=[(.tmp 2)]
def aeN:EG 135=some ⟨88,Fj,b1135⟩:=r_
def A_136:=v_ (c_ 136)
def LB:=v_ (w_ A_136 0)
def Nk:=u1 A_136 1 LB
def LA:=v_ (w_ A_136 2)
def Lz:=u2 A_136 3 Nk LA
def acg:=u1 A_136 4 Lz
def QA:List bG:=[(.tmp 4)]
def aeM:EG 136=some ⟨21,QA,acg⟩:=r_
abbrev b1139:=v_ (c_ 139)
def aaN:List bG:=[(.tmp 4)]
def aeL:EG 139=some ⟨27,aaN,b1139⟩:=r_
def Ly:bu:=(.seq (.block 1 (sr [qm 67 65,qx 68 1 63 65,ql 69 68,qm 15 67,qm 16 69] (.draw [dq (qm 70 14) 0 2 false,dq (qm 71 15) 0 2 false,dq (ql 72 5) 0 1 false,dq (qm 73 16) 0 1 false,dq (qm 74 1) 0 1 false,dq (qf 75 0 12) 0 0 false,dq (ql 76 75) 0 0 false,dq (qm 77 15) 0 0 true,dq (qc 78 139 [.t 76,.t 77]) 0 1 true,dq (oq 79 (.bin .add .num (.t 74) (.t 78))) 1 1 true,dq (oq 80 (.call (.t 72) [.t 73,.t 79])) 1 2 true,dq (qx 81 1 70 71) 2 2 true,dq (qs 1 81 80) 2 3 true]))) (.region [qa 82 65 1,qm 65 82]))
def Lx:bu:=(.seq (.cond (.t 66) .skip (.exit 0)) Ly)
def Nj:=sr [qlt 66 65 64] Lx
def Lw:=sr [qm 91 13,qm 8 91] .ret
def DP:=sr [ql 88 3,qL 89 2 9,qm 90 13,⟨none,(.mapUp 3 (.t 88) (.t 89) (.t 90)),none⟩] Lw
def Lv:bu:=(.seq (sr [qf 48 0 12,ql 49 48,oq 50 (.bin .eql .num (.t 49) (xn 0))] (.cond (.t 50) (.region [ql 51 4,qf 52 1 12,ql 53 52,qm 54 1,oq 55 (.bin .sub .num (.t 53) (.t 54)),qm 56 1,oq 57 (.call (.t 51) [.t 55,.t 56]),qm 13 57]) (sr [qf 58 4 12,ql 59 58,qe 60 59,oq 61 (.mkSlice false 1 8 [(i_ 0)] (.t 60) (.t 60)),qm 14 61] (.seq (sr [qf 62 4 12,ql 63 62,qe 64 63,qi 65 0] (.block 0 (.loop Nj))) (sr [qm 83 14,qf 84 4 12,qs 1 84 83] (.region [ql 85 2,qL 86 5 12,qc 87 96 [.t 85,.t 86],qm 13 87])))))) DP)
def Lu:=sr [qi 13 0] Lv
def Lt:=sr [ql 40 2,oq 41 (.nilChk (.t 40)),oq 42 (.faddr 0 1 true (.t 41)),qf 43 0 42,ql 44 43,qm 45 0,qx 46 5 44 45,qL 47 5 46,qz 12,qs 5 12 47] Lu
def Ls:=sr [ql 38 2,qc 39 61 [.t 38]] Lt
def Lr:bu:=(.seq (sr [ql 31 3,qL 32 2 9,oq 33 (.lookup 3 (i_ 0) (.t 31) (.t 32) true),qm 30 33,oq 34 (.extract (.t 30) 0),oq 35 (.extract (.t 30) 1),qm 10 34,qm 11 35] (sr [qm 36 11] (.cond (.t 36) (sr [qm 37 10,qm 8 37] .ret) .skip))) Ls)
def GF:=sr [qm 27 0,qm 28 1,oq 29 (.build [(i_ 0),(i_ 0)] [(0,1,(.t 27)),(1,1,(.t 28))]),oq 9 (.new [(i_ 0),(i_ 0)]),qs 2 9 29] Lr
def GD:bu:=(.seq (sr [ql 17 2,oq 18 (.nilChk (.t 17)),qf 19 3 18,ql 20 19,qm 21 0,qx 22 1 20 21,ql 23 22,qm 24 1,oq 25 (.bin .leq .num (.t 23) (.t 24))] (.cond (.t 25) (sr [qm 26 0,qm 8 26] .ret) .skip)) GF)
def WV:=sr [qi 8 0] GD
def Qz:List bG:=[(.tmp 8)]
def aeK:EG 140=some ⟨92,Qz,WV⟩:=r_
abbrev b1141:=v_ (c_ 141)
def aaM:List bG:=[(.tmp 6)]
def aeJ:EG 141=some ⟨14,aaM,b1141⟩:=r_
def oz:=sr [qm 8 20] (.region [oq 9 (.new [(i_ 0),(i_ 0),(i_ 0),(i_ 0),(i_ 0),(i_ 0),(.str (bs [])),.nl,.nl]),qs 9 9 21])
def oy:bu:=(.block 3 (sr [qm 22 8,ql 23 3,oq 24 (.bin .eql .num (.t 22) (.t 23))] (.cond (.t 24) (sr [qL 25 9 9,qs 9 4 25,⟨none,(.store 1 (.t 5) (xn 0)),none⟩] .ret) .skip)))
def A_142:=v_ (c_ 142)
def Kk:=v_ (w_ A_142 6)
def agT:=sr [oq 3 (.box 1 (.t 1)),oq 4 (.new [(i_ 0),(i_ 0),(i_ 0),(i_ 0),(i_ 0),(i_ 0),(.str (bs [])),.nl,.nl]),oq 5 (.new [(i_ 0)])] (.seq (sr [qm 10 0,qe 11 10,qi 12 0] (.block 0 (.loop (sr [qlt 13 12 11] (.seq (.cond (.t 13) .skip (.exit 0)) (.seq (.block 1 (sr [qm 14 12,qx 15 23 10 12,qL 16 23 15,oq 7 (.new [(i_ 0),(.str (bs [])),(i_ 0),(i_ 0),(i_ 0),(.str (bs [])),.nl,.nl,(i_ 0),(i_ 0),(.str (bs [])),.nl,.nl,(i_ 0),.nl,(i_ 0),(i_ 0),(i_ 0),(.str (bs [])),.nl,.nl,.nl,.nl]),qm 6 14,qs 23 7 16] (sr [qL 17 23 7,qm 18 6,qc 19 178 [.t 17,.t 18]] (.block 2 (.rangeFunc (.t 19) [20,21] oz oy))))) (.region [qa 26 12 1,qm 12 26]))))))) Kk)
def Ra:List bG:=[(.cell 4 true 9),(.cell 5 false 1)]
def cf257:EG 142=some ⟨28,Ra,agT⟩:=r_
abbrev b316:=v_ (c_ 143)
def r316:List bG:=[(.cell 4 true 5),(.tmp 5)]
def cf316:EG 143=some ⟨11,r316,b316⟩:=r_
abbrev b1144:=v_ (c_ 144)
def aaL:List bG:=[(.tmp 4)]
def aeI:EG 144=some ⟨36,aaL,b1144⟩:=r_
def A_145:=v_ (c_ 145)
def Ki:=v_ (w_ A_145 1)
abbrev b312:=u1 A_145 4 (u1 A_145 3 (u2 A_145 2 (v_ (w_ A_145 0)) Ki))
def agF:List bG:=[(.tmp 2),(.cell 3 true 5)]
def cf312:EG 145=some ⟨27,agF,b312⟩:=r_
abbrev b1146:=v_ (c_ 146)
def Qy:List bG:=[(.cell 4 true 23),(.tmp 5),(.tmp 6),(.tmp 7)]
def aeH:EG 146=some ⟨93,Qy,b1146⟩:=r_
abbrev b1147:=v_ (c_ 147)
def aaK:List bG:=[(.tmp 2)]
def aeG:EG 147=some ⟨8,aaK,b1147⟩:=r_
abbrev b1148:=v_ (c_ 148)
def Qx:List bG:=[(.cell 4 true 8),(.tmp 5)]
def aeF:EG 148=some ⟨26,Qx,b1148⟩:=r_
abbrev b1150:=v_ (c_ 150)
def aaJ:List bG:=[(.cell 4 true 9),(.tmp 5)]
def aeE:EG 150=some ⟨28,aaJ,b1150⟩:=r_
abbrev b192:=v_ (c_ 161)
def r192:List bG:=[(.tmp 2)]
def cf192:EG 161=some ⟨7,r192,b192⟩:=r_
abbrev b159:=v_ (c_ 162)
def acG:List bG:=[(.tmp 4)]
def cf159:EG 162=some ⟨19,acG,b159⟩:=r_
def A_163:=v_ (c_ 163)
def JC:=v_ (w_ A_163 0)
def VO:=v_ (w_ A_163 5)
abbrev b21:=u1 A_163 8 (u1 A_163 7 (u2 A_163 6 (u1 A_163 4 (u1 A_163 3 (u1 A_163 2 (u1 A_163 1 JC)))) VO))
def r21:List bG:=[(.tmp 2)]
def cf21:EG 163=some ⟨67,r21,b21⟩:=r_
abbrev b116:=v_ (c_ 164)
def r116:List bG:=[(.tmp 2)]
def cf116:EG 164=some ⟨15,r116,b116⟩:=r_
abbrev b117:=v_ (c_ 165)
def r117:List bG:=[(.tmp 2)]
def cf117:EG 165=some ⟨21,r117,b117⟩:=r_
abbrev b1166:=v_ (c_ 166)
def aaF:List bG:=[(.tmp 2)]
def aev:EG 166=some ⟨6,aaF,b1166⟩:=r_
abbrev b1167:=v_ (c_ 167)
def VY:List bG:=[(.tmp 2)]
def aeu:EG 167=some ⟨32,VY,b1167⟩:=r_
abbrev b1168:=sr [oq 1 (.box 23 (.t 0)),oq 2 (.mv (.c .nl))] (.seq (sr [qf 7 0 1,ql 8 7] (.block 0 (.seq (sr [oq 10 (.bin .eql .num (.t 8) (xn 0)),qm 9 10] (.cond (.t 9) .skip (sr [oq 11 (.bin .eql .num (.t 8) (xn 1)),qm 9 11] (.cond (.t 9) .skip (.region [oq 12 (.bin .eql .num (.t 8) (xn 2)),qm 9 12]))))) (.cond (.t 9) (sr [qf 13 1 1,ql 14 13,oq 15 (.lit false 1 [(.str (bs []))] 1 [(0,(.t 14))]),qm 2 15] .ret) (sr [oq 17 (.bin .eql .num (.t 8) (xn 3)),qm 16 17] (.cond (.t 16) (sr [qf 18 1 1,ql 19 18,oq 20 (.lit false 1 [(.str (bs []))] 1 [(0,(.t 19))]),qm 3 20] (.seq (sr [qi 4 0] (.block 1 (.loop (.seq (sr [qm 21 4,qf 22 14 1,ql 23 22,qe 24 23,qlt 25 21 24] (.cond (.t 25) .skip (.exit 1))) (.seq (.block 2 (.region [qm 28 3,qf 29 14 1,ql 30 29,qm 31 4,qx 32 6 30 31,qf 33 0 32,ql 34 33,oq 35 (.lit false 1 [(.str (bs []))] 1 [(0,(.t 34))]),oq 36 (.builtin (.append 1 false [(.str (bs []))] 16) [.t 28,.t 35]),qm 3 36])) (.region [qm 26 4,qa 27 26 1,qm 4 27])))))) (sr [qm 37 3,qf 38 1 1,ql 39 38,oq 40 (.bin .add .num (.t 39) (.c (.str (bs [46,114,101,99])))),oq 41 (.lit false 1 [(.str (bs []))] 1 [(0,(.t 40))]),oq 42 (.builtin (.append 1 false [(.str (bs []))] 16) [.t 37,.t 41]),qm 2 42] .ret))) (sr [oq 44 (.bin .eql .num (.t 8) (xn 4)),qm 43 44] (.cond (.t 43) (sr [oq 5 (.mv (.c .nl))] (.seq (sr [qi 6 0] (.block 3 (.loop (.seq (sr [qm 45 6,qf 46 22 1,ql 47 46,qe 48 47,qlt 49 45 48] (.cond (.t 49) .skip (.exit 3))) (.seq (.block 4 (.region [qm 52 5,qf 53 22 1,ql 54 53,qm 55 6,qx 56 15 54 55,qf 57 0 56,ql 58 57,oq 59 (.lit false 1 [(.str (bs []))] 1 [(0,(.t 58))]),oq 60 (.builtin (.append 1 false [(.str (bs []))] 16) [.t 52,.t 59]),qm 5 60])) (.region [qm 50 6,qa 51 50 1,qm 6 51])))))) (sr [qm 61 5,qm 2 61] .ret))) .skip)))))))) (sr [oq 2 (.mv (.c .nl))] .ret))
def VX:List bG:=[(.tmp 2)]
def aet:EG 168=some ⟨62,VX,b1168⟩:=r_
abbrev b1169:=v_ (c_ 169)
def VW:List bG:=[(.tmp 4)]
def aes:EG 169=some ⟨18,VW,b1169⟩:=r_
def ace:=v_ (c_ 170)
def VV:List bG:=[(.tmp 8)]
def aer:EG 170=some ⟨20,VV,ace⟩:=r_
def A_171:=v_ (c_ 171)
def pE:=v_ (w_ A_171 10)
def acd:=u1 A_171 13 (u1 A_171 12 (u1 A_171 11 pE))
def Qt:List bG:=[(.tmp 8)]
def aeq:EG 171=some ⟨110,Qt,acd⟩:=r_
abbrev b1172:=v_ (c_ 172)
def aaE:List bG:=[(.tmp 2)]
def aep:EG 172=some ⟨21,aaE,b1172⟩:=r_
abbrev b282:=v_ (c_ 178)
def r282:List bG:=[(.tmp 4)]
def cf282:EG 178=some ⟨6,r282,b282⟩:=r_
abbrev b113:=v_ (c_ 179)
def r113:List bG:=[(.cell 4 true 5),(.cell 5 false 1)]
def cf113:EG 179=some ⟨11,r113,b113⟩:=r_
abbrev b327:=v_ (c_ 180)
def r327:List bG:=[(.cell 3 true 2),(.tmp 4)]
def cf327:EG 180=some ⟨10,r327,b327⟩:=r_
def A_181:=v_ (c_ 181)
def Uv:=v_ (w_ A_181 0)
def Uu:=u1 A_181 1 Uv
def Ut:=u1 A_181 2 Uu
def Vw:=u1 A_181 3 Ut
def Us:=v_ (w_ A_181 4)
def Ur:=u2 A_181 5 Vw Us
def Uq:=u1 A_181 6 Ur
def Uo:=u1 A_181 7 Uq
def Un:=u1 A_181 8 Uo
def Ul:=u1 A_181 9 Un
def b328:=u1 A_181 10 Ul
def r328:List bG:=[(.cell 4 true 2),(.tmp 5)]
def cf328:EG 181=some ⟨63,r328,b328⟩:=r_
abbrev b324:=v_ (c_ 182)
def acE:List bG:=[(.cell 4 true 23),(.tmp 5),(.tmp 6)]
def cf324:EG 182=some ⟨44,acE,b324⟩:=r_
def A_185:=v_ (c_ 185)
def Ln:=v_ (w_ A_185 0)
def Ni:=u1 A_185 1 Ln
def Lm:=v_ (w_ A_185 2)
def Nh:=u1 A_185 3 Lm
def zh:=v_ (w_ A_185 4)
def Ll:=u3 A_185 5 Ni Nh zh
def Lj:=u1 A_185 6 Ll
def acb:=u1 A_185 7 Lj
def JE:List bG:=[(.cell 6 true 9)]
def aeo:EG 185=some ⟨96,JE,acb⟩:=r_
def A_189:=v_ (c_ 189)
def DN:=v_ (w_ A_189 1)
abbrev b1189:=u1 A_189 4 (u1 A_189 3 (u2 A_189 2 (v_ (w_ A_189 0)) DN))
def VU:List bG:=[(.tmp 2),(.cell 3 true 5)]
def aen:EG 189=some ⟨27,VU,b1189⟩:=r_
abbrev b1190:=v_ (c_ 190)
def aaD:List bG:=[(.tmp 4)]
def aem:EG 190=some ⟨23,aaD,b1190⟩:=r_
abbrev b238:=v_ (c_ 193)
def r238:List bG:=[(.tmp 3)]
def cf238:EG 193=some ⟨9,r238,b238⟩:=r_
def A_194:=v_ (c_ 194)
def Ng:=v_ (w_ A_194 0)
def DM:=v_ (w_ A_194 1)
def Li:=u2 A_194 2 Ng DM
def Lh:=u1 A_194 3 Li
def aca:=u1 A_194 4 Lh
def VR:List bG:=[(.tmp 2)]
def aek:EG 194=some ⟨20,VR,aca⟩:=r_
def A_195:=v_ (c_ 195)
def DL:=v_ (w_ A_195 4)
def ab9:=u1 A_195 6 (u1 A_195 5 DL)
def Qs:List bG:=[(.tmp 4)]
def aej:EG 195=some ⟨59,Qs,ab9⟩:=r_
def A_196:=v_ (c_ 196)
def XN:=v_ (w_ A_196 0)
def XM:=u1 A_196 1 XN
abbrev b1196:=u1 A_196 6 (u1 A_196 5 (u2 A_196 4 (u1 A_196 2 XM) (v_ (w_ A_196 3))))
def VQ:List bG:=[(.tmp 4)]
def aei:EG 196=some ⟨74,VQ,b1196⟩:=r_
abbrev b302:=sr [ql 9 1,qf 10 2 2,ql 11 10,oq 12 (.faddr 3 5 true (.t 2)),qL 13 5 12,oq 14 (.build [(i_ 0),(i_ 0),(i_ 0),(i_ 0),(i_ 0),(i_ 0),(.str (bs [])),.nl,.nl] [(1,1,(.t 9)),(3,1,(.t 11)),(4,5,(.t 13))]),oq 4 (.new [(i_ 0),(i_ 0),(i_ 0),(i_ 0),(i_ 0),(i_ 0),(.str (bs [])),.nl,.nl]),qs 9 4 14] (sr [qf 15 0 2,ql 16 15] (.block 0 (.seq (sr [oq 18 (.bin .eql .num (.t 16) (xn 0)),qm 17 18] (.cond (.t 17) .skip (sr [oq 19 (.bin .eql .num (.t 16) (xn 1)),qm 17 19] (.cond (.t 17) .skip (.region [oq 20 (.bin .eql .num (.t 16) (xn 2)),qm 17 20]))))) (.cond (.t 17) (sr [oq 21 (.lit false 1 [(i_ 0)] 3 [(0,(xn 0)),(1,(xn 1)),(2,(xn 2))]),qf 22 0 2,ql 23 22,qx 24 1 21 23,ql 25 24,qf 26 0 4,qs 1 26 25] (.region [qm 27 0,qf 28 1 2,ql 29 28,qL 30 9 4,oq 31 (.call (.t 27) [.t 29,.t 30])])) (sr [oq 33 (.bin .eql .num (.t 16) (xn 3)),qm 32 33] (.cond (.t 32) (sr [qf 34 0 4,⟨none,(.store 1 (.t 34) (xn 3)),none⟩] (.seq (sr [qm 35 0,qf 36 1 2,ql 37 36,qL 38 9 4,oq 39 (.call (.t 35) [.t 37,.t 38]),oq 40 (.un (.t 39))] (.cond (.t 40) .ret .skip)) (.seq (sr [qf 41 14 2,ql 42 41,qe 43 42,qi 44 0] (.block 1 (.loop (sr [qlt 45 44 43] (.seq (.cond (.t 45) .skip (.exit 1)) (.seq (.block 2 (sr [qm 46 44,qx 47 6 42 44,qL 48 6 47,oq 6 (.new [(.str (bs [])),(i_ 0),(i_ 0),(.str (bs [])),.nl,.nl]),qm 5 46,qs 6 6 48] (sr [qm 49 0,qf 50 0 6,ql 51 50,ql 52 1,qm 53 5,qf 54 2 2,ql 55 54,oq 56 (.faddr 1 5 true (.t 6)),qL 57 5 56,oq 58 (.build [(i_ 0),(i_ 0),(i_ 0),(i_ 0),(i_ 0),(i_ 0),(.str (bs [])),.nl,.nl] [(0,1,(xn 4)),(1,1,(.t 52)),(2,1,(.t 53)),(3,1,(.t 55)),(4,5,(.t 57))]),oq 59 (.call (.t 49) [.t 51,.t 58]),oq 60 (.un (.t 59))] (.cond (.t 60) .ret .skip)))) (.region [qa 61 44 1,qm 44 61]))))))) (.region [qm 62 0,qf 63 1 2,ql 64 63,oq 65 (.bin .add .num (.t 64) (.c (.str (bs [46,114,101,99])))),ql 66 1,oq 67 (.faddr 15 7 true (.t 2)),qf 68 0 67,ql 69 68,oq 70 (.faddr 15 7 true (.t 2)),oq 71 (.faddr 1 5 true (.t 70)),qL 72 5 71,oq 73 (.build [(i_ 0),(i_ 0),(i_ 0),(i_ 0),(i_ 0),(i_ 0),(.str (bs [])),.nl,.nl] [(0,1,(xn 5)),(1,1,(.t 66)),(3,1,(.t 69)),(4,5,(.t 72))]),oq 74 (.call (.t 62) [.t 65,.t 73])])))) (sr [oq 76 (.bin .eql .num (.t 16) (xn 4)),qm 75 76] (.cond (.t 75) (sr [qf 77 22 2,ql 78 77,qe 79 78,qi 80 0] (.block 3 (.loop (sr [qlt 81 80 79] (.seq (.cond (.t 81) .skip (.exit 3)) (.seq (.block 4 (sr [qm 82 80,qx 83 15 78 80,qL 84 15 83,oq 8 (.new [(.str (bs [])),(i_ 0),(i_ 0),(.str (bs [])),.nl,.nl,(i_ 0),(i_ 0),(i_ 0),(i_ 0),(.str (bs [])),.nl,.nl,(i_ 0),.nl]),qm 7 82,qs 15 8 84] (sr [qm 85 0,qf 86 0 8,ql 87 86,ql 88 1,qm 89 7,qf 90 2 2,ql 91 90,oq 92 (.faddr 1 5 true (.t 8)),qL 93 5 92,oq 94 (.build [(i_ 0),(i_ 0),(i_ 0),(i_ 0),(i_ 0),(i_ 0),(.str (bs [])),.nl,.nl] [(0,1,(xn 6)),(1,1,(.t 88)),(2,1,(.t 89)),(3,1,(.t 91)),(4,5,(.t 93))]),oq 95 (.call (.t 85) [.t 87,.t 94]),oq 96 (.un (.t 95))] (.cond (.t 96) .ret .skip)))) (.region [qa 97 80 1,qm 80 97]))))))) .skip))))))))
def agG:List bG:=[]
def cf302:EG 199=some ⟨98,agG,b302⟩:=r_
abbrev b161:=v_ (c_ 200)
def r161:List bG:=[]
def abD:EG 200=some ⟨9,r161,b161⟩:=r_
abbrev b84:=v_ (c_ 201)
def r84:List bG:=[(.tmp 2)]
def cf84:EG 201=some ⟨14,r84,b84⟩:=r_
abbrev b162:=v_ (c_ 202)
def r162:List bG:=[(.cell 5 true 5),(.tmp 6)]
def cf162:EG 202=some ⟨39,r162,b162⟩:=r_
abbrev b87:=v_ (c_ 203)
def r87:List bG:=[(.cell 2 true 5)]
def cf87:EG 203=some ⟨33,r87,b87⟩:=r_
abbrev b88:=v_ (c_ 204)
def r88:List bG:=[]
def cf88:EG 204=some ⟨4,r88,b88⟩:=r_
abbrev b90:=v_ (c_ 205)
def r90:List bG:=[(.cell 6 true 5)]
def cf90:EG 205=some ⟨54,r90,b90⟩:=r_
abbrev b163:=v_ (c_ 206)
def r163:List bG:=[(.tmp 2)]
def cf163:EG 206=some ⟨6,r163,b163⟩:=r_
abbrev b329:=v_ (c_ 207)
def r329:List bG:=[(.tmp 2)]
def cf329:EG 207=some ⟨22,r329,b329⟩:=r_
abbrev b164:=v_ (c_ 208)
def r164:List bG:=[(.tmp 0)]
def cf164:EG 208=some ⟨4,r164,b164⟩:=r_
abbrev b166:=v_ (c_ 209)
def r166:List bG:=[]
def cf166:EG 209=some ⟨24,r166,b166⟩:=r_
abbrev b165:=v_ (c_ 210)
def r165:List bG:=[]
def cf165:EG 210=some ⟨39,r165,b165⟩:=r_
abbrev b167:=v_ (c_ 211)
def r167:List bG:=[(.cell 2 true 2),(.tmp 3)]
def cf167:EG 211=some ⟨41,r167,b167⟩:=r_
abbrev b128:=v_ (c_ 219)
def r128:List bG:=[(.tmp 4)]
def cf128:EG 219=some ⟨26,r128,b128⟩:=r_
abbrev b208:=v_ (c_ 220)
def r208:List bG:=[(.tmp 2)]
def cf208:EG 220=some ⟨6,r208,b208⟩:=r_
abbrev b210:=v_ (c_ 222)
def r210:List bG:=[(.tmp 2)]
def cf210:EG 222=some ⟨4,r210,b210⟩:=r_
def A_223:=v_ (c_ 223)
def UB:=v_ (w_ A_223 0)
def UA:=u1 A_223 1 UB
def Uz:=u1 A_223 2 UA
def Vx:=u1 A_223 3 Uz
def Kn:=v_ (w_ A_223 4)
def Uy:=u1 A_223 5 Kn
def Ux:=u1 A_223 6 Uy
def Uw:=u2 A_223 7 Vx Ux
def b199:=u1 A_223 8 Uw
def r199:List bG:=[(.cell 2 true 2),(.tmp 3)]
def cf199:EG 223=some ⟨26,r199,b199⟩:=r_
abbrev b239:=v_ (c_ 137)
def acF:List bG:=[(.tmp 4)]
def cf239:EG 137=some ⟨19,acF,b239⟩:=r_
