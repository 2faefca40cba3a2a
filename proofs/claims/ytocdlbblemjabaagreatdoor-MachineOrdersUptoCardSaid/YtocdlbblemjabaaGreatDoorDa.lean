/- Lemmas for MachineOrders (no condition). -/
import Derived.Test.YtocdlbblemjabaaGreatDoorAw
set_option linter.defProp false
noncomputable section
namespace Go.Proofs.YtocdlbblemjabaaGreatDoor
open Go.AG Go.AG.MK
set_option maxRecDepth 100000
set_option maxHeartbeats 0
def WZ:=v_ (c_ 6)
def QM:List bG:=[(.tmp 6)]
def af3:EG 6=some ⟨75,QM,WZ⟩:=r_
abbrev b16:=v_ (c_ 11)
def r16:List bG:=[(.tmp 0)]
def cf16:EG 11=some ⟨3,r16,b16⟩:=r_
abbrev b1017:=v_ (c_ 20)
def Wz:List bG:=[(.cell 8 true 1),(.tmp 9),(.tmp 10)]
def af1:EG 20=some ⟨19,Wz,b1017⟩:=r_
abbrev b1018:=v_ (c_ 21)
def Wy:List bG:=[(.tmp 10),(.tmp 11)]
def af0:EG 21=some ⟨46,Wy,b1018⟩:=r_
abbrev b1027:=v_ (c_ 27)
def abo:List bG:=[(.cell 4 true 5),(.tmp 5)]
def afU:EG 27=some ⟨25,abo,b1027⟩:=r_
abbrev b1032:=v_ (c_ 32)
def abn:List bG:=[(.cell 6 true 5),(.tmp 7)]
def Vd:EG 32=some ⟨32,abn,b1032⟩:=r_
abbrev WY:=v_ (c_ 33)
def JJ:List bG:=[(.cell 6 true 5)]
def Vc:EG 33=some ⟨118,JJ,WY⟩:=r_
abbrev b1036:=v_ (c_ 36)
def abl:List bG:=[(.cell 6 true 5)]
def afQ:EG 36=some ⟨77,abl,b1036⟩:=r_
abbrev b1037:=v_ (c_ 37)
def JI:List bG:=[(.cell 10 true 1),(.tmp 11),(.tmp 12)]
def afP:EG 37=some ⟨43,JI,b1037⟩:=r_
def A_42:=v_ (c_ 42)
def s1042_0:=v_ (w_ A_42 0)
abbrev b1042:=u1 A_42 3 (u1 A_42 2 (u1 A_42 1 s1042_0))
def Wu:List bG:=[(.tmp 6)]
def cf1042:EG 42=some ⟨121,Wu,b1042⟩:=r_
abbrev b1039:=v_ (c_ 43)
def abk:List bG:=[(.tmp 8)]
def afN:EG 43=some ⟨29,abk,b1039⟩:=r_
abbrev b1052:=v_ (c_ 52)
def abg:List bG:=[(.tmp 4)]
def afF:EG 52=some ⟨14,abg,b1052⟩:=r_
def A_53:=v_ (c_ 53)
def Ed:=v_ (w_ A_53 2)
abbrev b1053:=u1 A_53 6 (u1 A_53 5 (u1 A_53 4 (u2 A_53 3 (v_ (w_ A_53 1)) Ed)))
def Wr:List bG:=[(.tmp 6)]
def afE:EG 53=some ⟨37,Wr,b1053⟩:=r_
abbrev b1054:=v_ (c_ 54)
def abf:List bG:=[(.cell 4 true 5)]
def afD:EG 54=some ⟨42,abf,b1054⟩:=r_
abbrev b148:=v_ (c_ 68)
def aaa:List bG:=[(.cell 2 true 5),(.tmp 3)]
def cf148:EG 68=some ⟨32,aaa,b148⟩:=r_
abbrev b203:=v_ (c_ 69)
def r203:List bG:=[(.cell 4 true 5),(.tmp 5)]
def cf203:EG 69=some ⟨11,r203,b203⟩:=r_
abbrev b74:=v_ (c_ 70)
def r74:List bG:=[(.cell 4 true 5)]
def cf74:EG 70=some ⟨20,r74,b74⟩:=r_
abbrev b1071:=v_ (c_ 71)
def aa3:List bG:=[(.cell 6 true 5)]
def afs:EG 71=some ⟨28,aa3,b1071⟩:=r_
def A_72:=v_ (c_ 72)
def iu:=v_ (w_ A_72 1)
abbrev b1072:=u1 A_72 5 (u1 A_72 4 (u1 A_72 3 (u1 A_72 2 iu)))
def vY:List bG:=[(.cell 8 true 5),(.tmp 9)]
def afr:EG 72=some ⟨143,vY,b1072⟩:=r_
abbrev b149:=v_ (c_ 74)
def r149:List bG:=[(.cell 4 true 5)]
def cf149:EG 74=some ⟨17,r149,b149⟩:=r_
def A_75:=v_ (c_ 75)
def Eb:=v_ (w_ A_75 0)
def Me:=u1 A_75 1 Eb
def WX:=u1 A_75 2 Me
def Fo:List bG:=[(.tmp 6)]
def afp:EG 75=some ⟨22,Fo,WX⟩:=r_
abbrev b1076:=v_ (c_ 76)
def Wo:List bG:=[(.tmp 4)]
def afo:EG 76=some ⟨12,Wo,b1076⟩:=r_
abbrev b1077:=v_ (c_ 77)
def aa1:List bG:=[(.cell 6 true 5)]
def afn:EG 77=some ⟨15,aa1,b1077⟩:=r_
abbrev b244:=v_ (c_ 108)
def r244:List bG:=[(.cell 6 true 5),(.tmp 7)]
def cf244:EG 108=some ⟨42,r244,b244⟩:=r_
abbrev b102:=v_ (c_ 109)
def agJ:List bG:=[]
def cf102:EG 109=some ⟨65,agJ,b102⟩:=r_
abbrev b1110:=v_ (c_ 110)
def QF:List bG:=[(.cell 4 true 9),(.tmp 5)]
def ae3:EG 110=some ⟨26,QF,b1110⟩:=r_
abbrev b1111:=v_ (c_ 111)
def aaR:List bG:=[(.cell 4 true 5),(.tmp 5)]
def ae2:EG 111=some ⟨25,aaR,b1111⟩:=r_
abbrev b1112:=v_ (c_ 112)
def aaQ:List bG:=[(.tmp 2)]
def ae1:EG 112=some ⟨13,aaQ,b1112⟩:=r_
abbrev b1113:=v_ (c_ 113)
def QE:List bG:=[(.cell 10 true 5),(.tmp 11)]
def ae0:EG 113=some ⟨93,QE,b1113⟩:=r_
def A_114:=v_ (c_ 114)
def LG:=v_ (w_ A_114 0)
def zn:=u1 A_114 1 LG
def zm:=u1 A_114 2 zn
def vJ:=u1 A_114 3 zm
def vI:=u1 A_114 4 vJ
def vH:=u1 A_114 5 vI
def Nl:=u1 A_114 6 vH
def LF:=v_ (w_ A_114 7)
def LD:=u2 A_114 8 Nl LF
def LC:=u1 A_114 9 LD
def GH:=u1 A_114 10 LC
def GG:=u1 A_114 11 GH
def ach:=u1 A_114 12 GG
def AN:List bG:=[(.cell 8 true 5),(.tmp 9),(.tmp 10),(.cell 11 true 5)]
def aeZ:EG 114=some ⟨87,AN,ach⟩:=r_
abbrev b1115:=v_ (c_ 115)
def aaP:List bG:=[(.tmp 2)]
def aeY:EG 115=some ⟨20,aaP,b1115⟩:=r_
abbrev b1116:=v_ (c_ 116)
def QD:List bG:=[(.tmp 4)]
def aeX:EG 116=some ⟨81,QD,b1116⟩:=r_
def A_117:=v_ (c_ 117)
def DW:=v_ (w_ A_117 1)
abbrev b1117:=u1 A_117 8 (u1 A_117 7 (u1 A_117 6 (u1 A_117 5 (u1 A_117 4 (u1 A_117 3 (u1 A_117 2 DW))))))
def JH:List bG:=[(.tmp 4)]
def aeW:EG 117=some ⟨100,JH,b1117⟩:=r_
def A_118:=v_ (c_ 118)
def zj:=v_ (w_ A_118 2)
def oJ:=u1 A_118 3 zj
abbrev b1118:=u1 A_118 7 (u1 A_118 6 (u2 A_118 5 (v_ (w_ A_118 1)) (u1 A_118 4 oJ)))
def JG:List bG:=[(.cell 2 true 5)]
def aeV:EG 118=some ⟨144,JG,b1118⟩:=r_
abbrev b1119:=v_ (c_ 119)
def aaO:List bG:=[(.cell 6 true 5)]
def aeU:EG 119=some ⟨104,aaO,b1119⟩:=r_
abbrev b279:=v_ (c_ 149)
def r279:List bG:=[(.cell 8 true 5)]
def cf279:EG 149=some ⟨105,r279,b279⟩:=r_
abbrev b104:=v_ (c_ 151)
def r104:List bG:=[(.cell 8 true 5)]
def cf104:EG 151=some ⟨76,r104,b104⟩:=r_
abbrev b1152:=v_ (c_ 152)
def aaI:List bG:=[(.tmp 2)]
def aeD:EG 152=some ⟨17,aaI,b1152⟩:=r_
abbrev b1153:=v_ (c_ 153)
def Qw:List bG:=[(.cell 4 true 23),(.tmp 5),(.tmp 6)]
def aeC:EG 153=some ⟨44,Qw,b1153⟩:=r_
def A_154:=v_ (c_ 154)
def Lq:=v_ (w_ A_154 0)
def vF:=u1 A_154 1 Lq
def vE:=u1 A_154 2 vF
def Lp:=u1 A_154 3 vE
def Lo:=u1 A_154 4 Lp
def acf:=u1 A_154 5 Lo
def Qv:List bG:=[(.cell 4 true 23),(.tmp 5),(.tmp 6),(.tmp 7)]
def aeB:EG 154=some ⟨54,Qv,acf⟩:=r_
abbrev b1155:=v_ (c_ 155)
def Qu:List bG:=[(.cell 4 true 8),(.tmp 5)]
def aeA:EG 155=some ⟨36,Qu,b1155⟩:=r_
def A_156:=v_ (c_ 156)
def DO:=v_ (w_ A_156 0)
abbrev b1156:=u1 A_156 2 (u1 A_156 1 DO)
def Fh:List bG:=[(.tmp 4)]
def aez:EG 156=some ⟨121,Fh,b1156⟩:=r_
abbrev b1157:=v_ (c_ 157)
def aaH:List bG:=[(.cell 0 true 5)]
def aey:EG 157=some ⟨2,aaH,b1157⟩:=r_
abbrev b1158:=v_ (c_ 158)
def aaG:List bG:=[(.tmp 4)]
def aex:EG 158=some ⟨21,aaG,b1158⟩:=r_
abbrev b73:=v_ (c_ 159)
def r73:List bG:=[(.cell 6 true 5),(.tmp 7)]
def cf73:EG 159=some ⟨40,r73,b73⟩:=r_
abbrev b1160:=v_ (c_ 160)
def VZ:List bG:=[(.tmp 6)]
def aew:EG 160=some ⟨39,VZ,b1160⟩:=r_
abbrev b118:=v_ (c_ 183)
def r118:List bG:=[(.cell 10 true 5)]
def cf118:EG 183=some ⟨68,r118,b118⟩:=r_
def A_184:=v_ (c_ 184)
def Kp:=v_ (w_ A_184 0)
abbrev b131:=u1 A_184 2 (u1 A_184 1 Kp)
def agI:List bG:=[(.cell 4 true 5)]
def cf131:EG 184=some ⟨11,agI,b131⟩:=r_
abbrev b151:=v_ (c_ 186)
def r151:List bG:=[(.cell 4 true 2),(.tmp 5)]
def cf151:EG 186=some ⟨26,r151,b151⟩:=r_
abbrev b130:=v_ (c_ 188)
def r130:List bG:=[]
def cf130:EG 188=some ⟨13,r130,b130⟩:=r_
abbrev b1191:=v_ (c_ 191)
def VT:List bG:=[(.tmp 4)]
def ael:EG 191=some ⟨11,VT,b1191⟩:=r_
abbrev b45:=v_ (c_ 192)
def r45:List bG:=[(.tmp 2)]
def cf45:EG 192=some ⟨5,r45,b45⟩:=r_
abbrev b200:=v_ (c_ 212)
def r200:List bG:=[(.tmp 2)]
def cf200:EG 212=some ⟨16,r200,b200⟩:=r_
abbrev b201:=v_ (c_ 214)
def r201:List bG:=[(.cell 6 true 2),(.tmp 7)]
def cf201:EG 214=some ⟨69,r201,b201⟩:=r_
def WU:=v_ (c_ 215)
def JD:List bG:=[(.tmp 6)]
def aeh:EG 215=some ⟨17,JD,WU⟩:=r_
def A_216:=v_ (c_ 216)
def VM:=v_ (w_ A_216 3)
abbrev b91:=u1 A_216 5 (u1 A_216 4 VM)
def r91:List bG:=[(.tmp 6)]
def cf91:EG 216=some ⟨44,r91,b91⟩:=r_
abbrev b242:=v_ (c_ 224)
def r242:List bG:=[(.cell 2 true 2)]
def cf242:EG 224=some ⟨5,r242,b242⟩:=r_
def A_225:=v_ (c_ 225)
def Kl:=v_ (w_ A_225 4)
abbrev b243:=u1 A_225 10 (u1 A_225 9 (u1 A_225 8 (u1 A_225 7 (u1 A_225 6 (u1 A_225 5 Kl)))))
def ZY:List bG:=[(.cell 4 true 2),(.tmp 5)]
def cf243:EG 225=some ⟨75,ZY,b243⟩:=r_
def A_226:=v_ (c_ 226)
def Km:=v_ (w_ A_226 0)
def Bq:=v_ (w_ A_226 4)
abbrev b202:=u1 A_226 9 (u1 A_226 8 (u1 A_226 7 (u1 A_226 6 (u2 A_226 5 (u1 A_226 2 (u1 A_226 1 Km)) Bq))))
def ZZ:List bG:=[(.cell 4 true 2)]
def cf202:EG 226=some ⟨138,ZZ,b202⟩:=r_
abbrev b129:=v_ (c_ 227)
def acH:List bG:=[(.tmp 4)]
def cf129:EG 227=some ⟨49,acH,b129⟩:=r_
abbrev b204:=v_ (c_ 213)
def r204:List bG:=[(.tmp 2)]
def cf204:EG 213=some ⟨23,r204,b204⟩:=r_
abbrev b138:=v_ (c_ 80)
def r138:List bG:=[(.tmp 4)]
def cf138:EG 80=some ⟨49,r138,b138⟩:=r_
def A_81:=v_ (c_ 81)
def s1081_0:=v_ (w_ A_81 0)
def s1081_1:=u1 A_81 1 s1081_0
def s1081_2:=u1 A_81 2 s1081_1
def s1081_3:=u1 A_81 3 s1081_2
abbrev b1081:=u1 A_81 5 (u1 A_81 4 s1081_3)
def cf1081:EG 81=some ⟨106,r138,b1081⟩:=r_
abbrev b197:=v_ (c_ 122)
def r197:List bG:=[(.tmp 3)]
def cf197:EG 122=some ⟨16,r197,b197⟩:=r_
abbrev b144:=v_ (c_ 123)
def cf144:EG 123=some ⟨86,r138,b144⟩:=r_
