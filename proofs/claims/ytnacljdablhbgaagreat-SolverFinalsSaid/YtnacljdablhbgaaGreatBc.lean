/- SolverFinals: the compiled code of the functions that it reaches with its own input (printed by a program of ours out of the evaluator's compiler; no condition). -/
import Derived.Test.YtnacljdablhbgaaGreatBa
import Derived.KernelRfl
namespace Go.Proofs.YtnacljdablhbgaaGreat
open Go.AG
def ack:aw:=(.seq (.block 1 (sr [qm 47 1,qm 48 7,qx 49 2 47 48,qL 50 2 49,qc 51 21 [.t 50],oq 52 (.un .not (.t 51)),qm 53 52,og 54 (xm 1) 53 false,og 55 (xm 7) 53 false,og 56 (xx 2 54 55) 53 false,og 57 (xf 1 56) 53 false,og 58 (xl 57) 53 false,og 59 (xe 58) 53 false,og 60 (.bin .gtr .num (.t 59) (xn 8)) 53 false,qo 61 53 60] (.cond (.t 61) (sr [qc 62 13 [],qm 6 62] .ret) .skip))) (.region [qm 45 7,qa 46 45 1,qm 7 46]))
def b5_1:aw:=(.seq (sr [qm 41 7,qm 42 1,qe 43 42,qlt 44 41 43] (.cond (.t 44) .skip (.exit 0))) ack)
def s5_2:=sr [qc 84 13 [],qm 85 84,og 86 (xL 5 11) 85 true,og 87 (xL 5 9) 85 true,og 88 (xc 11 [.t 86,.t 87]) 85 true,qd 89 85 88,qm 90 89,og 91 (xm 12) 90 true,og 92 (xm 10) 90 true,og 93 (.bin .eql .num (.t 91) (.t 92)) 90 true,qd 94 90 93,qm 6 94] .ret
def s5_3:=sr [qL 78 4 3,qm 79 1,qL 80 5 5,qc 81 23 [.t 78,.t 79,.t 80],qm 77 81,oq 82 (.extract (.t 77) 0),oq 83 (.extract (.t 77) 1),qz 11,qs 5 11 82,qm 12 83] s5_2
def aes:aw:=(.seq (sr [qm 72 8,oq 73 (.nilChk (.t 72)),qf 74 4 73,ql 75 74] (.cond (.t 75) (sr [qc 76 13 [],qm 6 76] .ret) .skip)) s5_3)
def aer:=sr [qL 65 4 3,qm 66 1,qL 67 5 5,qm 68 8,qc 69 22 [.t 65,.t 66,.t 67,.t 68],qm 64 69,oq 70 (.extract (.t 64) 0),oq 71 (.extract (.t 64) 1),qz 9,qs 5 9 70,qm 10 71] aes
def aeq:=sr [qc 63 16 [],qm 8 63] aer
def s5_7:aw:=(.seq (sr [qi 7 0] (.block 0 (.loop b5_1))) aeq)
def MF:aw:=(.seq (sr [qL 13 4 3,qc 14 12 [.t 13],oq 15 (.un .not (.t 14)),qm 16 15,og 17 (xm 1) 16 false,og 18 (xe 17) 16 false,og 19 (.bin .gtr .num (.t 18) (xn 20)) 16 false,qo 20 16 19,qm 21 20,og 22 (xf 0 3) 21 false,og 23 (xl 22) 21 false,og 24 (xc 18 [.t 23,(.c .nl),(.c .nl)]) 21 false,og 25 (.un .not (.t 24)) 21 false,qo 26 21 25,qm 27 26,og 28 (xL 4 3) 27 false,og 29 (xL 5 5) 27 false,og 30 (xc 19 [.t 28,.t 29]) 27 false,og 31 (.un .not (.t 30)) 27 false,qo 32 27 31,qm 33 32,og 34 (xL 5 5) 33 false,og 35 (xf 3 3) 33 false,og 36 (xl 35) 33 false,og 37 (xc 20 [.t 34,.t 36]) 33 false,og 38 (.un .not (.t 37)) 33 false,qo 39 33 38] (.cond (.t 39) (sr [qc 40 13 [],qm 6 40] .ret) .skip)) s5_7)
def b5:=sr [oq 3 (.box 4 (.t 0)),oq 5 (.box 5 (.t 2)),qb 6 false] MF
def r5:List bF:=[(.tmp 6)]
theorem cf5:EF.cf 5=some ⟨95,r5,b5⟩:=by kernel_rfl
def abc:=sr [qf 7 0 2,ql 8 7,qL 9 5 5,qL 10 5 5,qL 11 5 5,qL 12 5 5,qL 13 5 5,qL 14 5 5,oq 15 (.lit true true 5 zT 6 [(0,(.t 9)),(1,(.t 10)),(2,(.t 11)),(3,(.t 12)),(4,(.t 13)),(5,(.t 14))]),qL 16 5 3,oq 17 (.lit true true 5 zT 1 [(0,(.t 16))]),qc 18 18 [.t 8,.t 15,.t 17],qm 4 18] .ret
def abb:=sr [oq 6 (.build zT [(0,1,(xn 1))]),qz 5,qs 5 5 6] abc
def b19:=sr [oq 2 (.box 4 (.t 0)),oq 3 (.box 5 (.t 1)),qb 4 false] abb
def r19:List bF:=[(.tmp 4)]
theorem cf19:EF.cf 19=some ⟨19,r19,b19⟩:=by kernel_rfl
def aa5:=sr [qL 40 5 10,qm 41 1,qc 42 63 [.t 40,.t 41],oq 43 (.extract (.t 42) 0),oq 44 (.extract (.t 42) 1),qs 5 8 43,qm 9 44] .ret
def Vq:aw:=(.seq (sr [qL 34 5 10,qm 35 1,qe 36 35,qc 37 62 [.t 34,.t 36],oq 38 (.un .not (.t 37))] (.cond (.t 38) (sr [oq 39 (.build zT []),qs 5 8 39,qi 9 24] .ret) .skip)) aa5)
def Mo:aw:=(.seq (sr [qL 29 5 10,qc 30 61 [.t 29],qe 31 30,oq 32 (.bin .gtr .num (.t 31) (xn 0))] (.cond (.t 32) (sr [oq 33 (.build zT []),qs 5 8 33,qi 9 23] .ret) .skip)) Vq)
def EU:aw:=(.seq (sr [qm 25 11,oq 26 (.bin .neq .num (.t 25) (xn 0))] (.cond (.t 26) (sr [oq 27 (.build zT []),qm 28 11,qs 5 8 27,qm 9 28] .ret) .skip)) Mo)
def Bb:aw:=(.seq (sr [qm 20 3,oq 21 (.nilChk (.t 20)),qf 22 4 21,ql 23 22] (.cond (.t 23) (sr [oq 24 (.build zT []),qs 5 8 24,qi 9 11] .ret) .skip)) EU)
def Ba:=sr [qf 13 0 4,ql 14 13,qL 15 5 6,qm 16 3,qc 17 60 [.t 14,.t 15,.t 16],qm 12 17,oq 18 (.extract (.t 12) 0),oq 19 (.extract (.t 12) 1),qz 10,qs 5 10 18,qm 11 19] Bb
def b22:=sr [oq 4 (.box 4 (.t 0)),oq 6 (.box 5 (.t 2)),qz 8,qi 9 0] Ba
def r22:List bF:=[(.cell 8 true 5),(.tmp 9)]
theorem cf22:EF.cf 22=some ⟨45,r22,b22⟩:=by kernel_rfl
def aa4:=sr [qL 41 5 8,qs 5 6 41,qi 7 0] .ret
def Vp:aw:=(.seq (sr [qm 37 9,oq 38 (.bin .neq .num (.t 37) (xn 0))] (.cond (.t 38) (sr [oq 39 (.build zT []),qm 40 9,qs 5 6 39,qm 7 40] .ret) .skip)) aa4)
def Vo:=sr [qL 32 5 8,qm 33 1,qc 34 67 [.t 32,.t 33],qm 31 34,oq 35 (.extract (.t 31) 0),oq 36 (.extract (.t 31) 1),qs 5 8 35,qm 9 36] Vp
def Mn:aw:=(.seq (sr [qL 26 5 8,qm 27 1,qe 28 27,qc 29 66 [.t 26,.t 28]] (.cond (.t 29) (sr [oq 30 (.build zT []),qs 5 6 30,qi 7 24] .ret) .skip)) Vo)
def ET:aw:=(.seq (sr [qL 21 5 8,qc 22 65 [.t 21],qe 23 22,oq 24 (.bin .gtr .num (.t 23) (xn 0))] (.cond (.t 24) (sr [oq 25 (.build zT []),qs 5 6 25,qi 7 23] .ret) .skip)) Mn)
def AZ:aw:=(.seq (sr [qm 17 9,oq 18 (.bin .neq .num (.t 17) (xn 0))] (.cond (.t 18) (sr [oq 19 (.build zT []),qm 20 9,qs 5 6 19,qm 7 20] .ret) .skip)) ET)
def AY:=sr [qf 11 0 3,ql 12 11,qL 13 5 5,qc 14 64 [.t 12,.t 13],qm 10 14,oq 15 (.extract (.t 10) 0),oq 16 (.extract (.t 10) 1),qz 8,qs 5 8 15,qm 9 16] AZ
def b23:=sr [oq 3 (.box 4 (.t 0)),oq 5 (.box 5 (.t 2)),qz 6,qi 7 0] AY
def r23:List bF:=[(.cell 6 true 5),(.tmp 7)]
theorem cf23:EF.cf 23=some ⟨42,r23,b23⟩:=by kernel_rfl
def UY:=sr [qL 22 5 8,qm 23 9,qs 5 6 22,qm 7 23] .ret
def aav:aw:=(.seq (sr [qm 17 9,oq 18 (.bin .eql .num (.t 17) (xn 0))] (.cond (.t 18) (.region [qm 19 2,qL 20 5 8,qc 21 102 [.t 19,.t 20,(xn 0)]]) .skip)) UY)
def aau:=sr [qm 11 0,qL 12 5 4,qm 13 2,qc 14 101 [.t 11,.t 12,(.c .nl),.t 13],qm 10 14,oq 15 (.extract (.t 10) 0),oq 16 (.extract (.t 10) 1),qz 8,qs 5 8 15,qm 9 16] aav
def b60:=sr [oq 4 (.box 5 (.t 1)),qz 6,qi 7 0] aau
def r60:List bF:=[(.cell 6 true 5),(.tmp 7)]
theorem cf60:EF.cf 60=some ⟨24,r60,b60⟩:=by kernel_rfl
def aat:=sr [qL 3 5 1,qc 4 103 [(.c .nl),.t 3],qm 2 4] .ret
def b61:=sr [oq 1 (.box 5 (.t 0)),oq 2 (.mv (.c .nl))] aat
def r61:List bF:=[(.tmp 2)]
theorem cf61:EF.cf 61=some ⟨5,r61,b61⟩:=by kernel_rfl
def aas:aw:=(.seq (.block 3 (sr [qf 26 3 2,ql 27 26,qm 28 5,qx 29 2 27 28,qf 30 1 29,ql 31 30,qm 32 6,qx 33 2 31 32,qf 34 0 33,ql 35 34,qm 36 1,oq 37 (.un .neg (.t 36)),qlt 38 35 37] (.cond (.t 38) (sr [qb 4 false] .ret) .skip))) (.region [qm 24 6,qa 25 24 1,qm 6 25]))
def abS:aw:=(.seq (sr [qm 15 6,qf 16 3 2,ql 17 16,qm 18 5,qx 19 2 17 18,qf 20 1 19,ql 21 20,qe 22 21,qlt 23 15 22] (.cond (.t 23) .skip (.exit 2))) aas)
def aar:aw:=(.seq (.block 1 (sr [qi 6 0] (.block 2 (.loop abS)))) (.region [qm 13 5,qa 14 13 1,qm 5 14]))
def abR:aw:=(.seq (sr [qm 8 5,qf 9 3 2,ql 10 9,qe 11 10,qlt 12 8 11] (.cond (.t 12) .skip (.exit 0))) aar)
def UX:aw:=(.seq (.block 5 (sr [qf 46 4 2,ql 47 46,qm 48 7,qx 49 5 47 48,qL 50 5 49,qm 51 1,qc 52 62 [.t 50,.t 51],oq 53 (.un .not (.t 52))] (.cond (.t 53) (sr [qb 4 false] .ret) .skip))) (.region [qm 44 7,qa 45 44 1,qm 7 45]))
def abQ:aw:=(.seq (sr [qm 39 7,qf 40 4 2,ql 41 40,qe 42 41,qlt 43 39 42] (.cond (.t 43) .skip (.exit 4))) UX)
def aaq:=sr [qb 4 true] .ret
def aap:aw:=(.seq (sr [qi 7 0] (.block 4 (.loop abQ))) aaq)
def aao:aw:=(.seq (sr [qi 5 0] (.block 0 (.loop abR))) aap)
def b62:=sr [oq 2 (.box 5 (.t 0)),qb 4 false] aao
def r62:List bF:=[(.tmp 4)]
theorem cf62:EF.cf 62=some ⟨54,r62,b62⟩:=by kernel_rfl
def aan:=sr [qL 24 5 7,qs 5 4 24,qi 5 0] .ret
def aam:aw:=(.seq (sr [qm 14 6,oq 15 (.nilChk (.t 14)),qf 16 0 15,ql 17 16,oq 18 (.bin .neq .num (.t 17) (xn 0))] (.cond (.t 18) (.seq (.draw [dq (oq 19 (.build zT [])) 0 0 false,dq (qm 20 6) 0 1 false,dq (oq 21 (.nilChk (.t 20))) 0 1 false,dq (qf 22 0 21) 0 1 false,dq (ql 23 22) 0 1 false,dq (qs 5 4 19) 0 1 true,dq (qm 5 23) 1 1 true]) .ret) .skip)) aan)
def aal:=sr [qm 10 6,qL 11 5 2,qm 12 1,qc 13 104 [.t 10,.t 11,.t 12,(.c (.bool true))],qz 7,qs 5 7 13] aam
def aak:=sr [oq 8 (.build [(.int .i64 0),(.int .i64 0)] []),oq 9 (.box 2 (.t 8)),qm 6 9] aal
def b63:=sr [oq 2 (.box 5 (.t 0)),qz 4,qi 5 0] aak
def r63:List bF:=[(.cell 4 true 5),(.tmp 5)]
theorem cf63:EF.cf 63=some ⟨25,r63,b63⟩:=by kernel_rfl
def UW:aw:=(.seq (.draw [dq (qm 7 0) 0 0 false,dq (qc 8 107 [.t 7]) 0 1 false,dq (qL 9 5 3) 0 1 true,dq (oq 10 (.call (.t 8) [.t 9])) 1 2 true,dq (qs 5 4 10) 2 3 true,(⟨none,(.store 1 (.t 5) (xn 0)),none⟩,⟨3,4,true⟩)]) .ret)
def UU:=sr [oq 6 (.mkFn 105 [] [.t 4,.t 5]),⟨none,(.defer (.t 6) []),none⟩] UW
def b64:=sr [oq 3 (.box 5 (.t 1)),qz 4,oq 5 (.new [(.int .i64 0)])] UU
def r64:List bF:=[(.cell 4 true 5),(.cell 5 false 1)]
theorem cf64:EF.cf 64=some ⟨11,r64,b64⟩:=by kernel_rfl
def nL:aw:=(.region [qz 6,qs 5 6 11])
def nK:aw:=(.block 1 (sr [qf 12 0 6,ql 13 12,oq 14 (.bin .eql .num (.t 13) (xn 12)),qm 15 14,og 16 (xl 3) 15 true,og 17 (xf 1 6) 15 true,og 18 (xl 17) 15 true,og 19 (.lookup 1 (.bool false) (.t 16) (.t 18) false) 15 true,og 20 (.un .not (.t 19)) 15 true,qd 21 15 20] (.cond (.t 21) (sr [ql 22 3,qf 23 1 6,ql 24 23,⟨none,(.mapUp 1 (.t 22) (.t 24) (.c (.bool true))),none⟩] (.region [ql 25 4,qf 26 1 6,ql 27 26,oq 28 (.lit true false 1 [(.int .i64 0)] 1 [(0,(.t 27))]),oq 29 (.builtin (.append 1 false [(.int .i64 0)] 8) [.t 25,.t 28]),qs 1 4 29])) .skip)))
def UT:=sr [ql 30 4,qm 2 30] .ret
def aaj:aw:=(.seq (sr [qL 8 5 1,qc 9 81 [.t 8]] (.block 0 (.rangeFunc (.t 9) [10,11] nL nK))) UT)
def aai:=sr [oq 4 (.new [.nl])] aaj
def aah:=sr [oq 7 .mkMap,oq 3 (.new [.nilm]),qs 1 3 7] aai
def b65:=sr [oq 1 (.box 5 (.t 0)),oq 2 (.mv (.c .nl))] aah
def r65:List bF:=[(.tmp 2)]
theorem cf65:EF.cf 65=some ⟨31,r65,b65⟩:=by kernel_rfl
def US:=sr [qf 7 3 2,ql 8 7,qm 9 5,qc 10 25 [.t 8,.t 9],qm 11 10,og 12 (xf 4 2) 11 false,og 13 (xl 12) 11 false,og 14 (.mkFn 112 [] [.t 3]) 11 false,og 15 (xc 111 [.t 13,.t 14]) 11 false,qo 16 11 15,qm 4 16] .ret
def UR:=sr [oq 6 (.mkFn 108 [] [.t 3]),qm 5 6] US
def b66:=sr [oq 2 (.box 5 (.t 0)),oq 3 (.box 1 (.t 1)),qb 4 false] UR
def r66:List bF:=[(.tmp 4)]
theorem cf66:EF.cf 66=some ⟨17,r66,b66⟩:=by kernel_rfl
def aag:=sr [qL 6 5 2,oq 7 (.mkFn 114 [] [.t 3]),qc 8 113 [.t 6,.t 7],oq 9 (.extract (.t 8) 0),oq 10 (.extract (.t 8) 1),qs 5 4 9,qm 5 10] .ret
def b67:=sr [oq 2 (.box 5 (.t 0)),oq 3 (.box 1 (.t 1)),qz 4,qi 5 0] aag
def r67:List bF:=[(.cell 4 true 5),(.tmp 5)]
theorem cf67:EF.cf 67=some ⟨11,r67,b67⟩:=by kernel_rfl
def ZP:aw:=(.seq (.block 1 (.draw [dq (qL 12 5 2) 0 0 false,dq (qm 13 1) 0 0 false,dq (qm 14 5) 0 0 true,dq (qx 15 5 13 14) 0 0 true,dq (qL 16 5 15) 0 0 true,dq (oq 17 (.lit true true 5 zT 2 [(0,(.t 12)),(1,(.t 16))])) 0 0 true,dq (oq 18 (.build zT [(0,1,(xn 4)),(4,1,(.t 17))])) 0 0 true,dq (qs 5 2 18) 0 1 true])) (.region [qm 10 5,qa 11 10 1,qm 5 11]))
def abM:aw:=(.seq (sr [qm 6 5,qm 7 1,qe 8 7,qlt 9 6 8] (.cond (.t 9) .skip (.exit 0))) ZP)
def ZO:=sr [qL 19 5 2,qs 5 4 19] .ret
def ZN:aw:=(.seq (sr [qi 5 0] (.block 0 (.loop abM))) ZO)
def b74:=sr [oq 2 (.box 5 (.t 0)),qz 4] ZN
def r74:List bF:=[(.cell 4 true 5)]
theorem cf74:EF.cf 74=some ⟨20,r74,b74⟩:=by kernel_rfl
def Tp:aw:=(.seq (sr [qm 74 15,oq 75 (.bin .neq .num (.t 74) (xn 0))] (.cond (.t 75) (sr [oq 76 (.build zT []),qm 77 15,qs 5 8 76,qm 9 77] .ret) .skip)) (.region [qm 78 12,qL 79 5 14,oq 80 (.lit true true 5 zT 1 [(0,(.t 79))]),oq 81 (.builtin (.append 5 true zT 80) [.t 78,.t 80]),qm 12 81]))
def To:aw:=(.seq (.block 1 (sr [qm 63 0,qf 64 4 10,ql 65 64,qm 66 13,qx 67 5 65 66,qL 68 5 67,qm 69 2,qm 70 3,qc 71 101 [.t 63,.t 68,.t 69,.t 70],qm 62 71,oq 72 (.extract (.t 62) 0),oq 73 (.extract (.t 62) 1),qz 14,qs 5 14 72,qm 15 73] Tp)) (.region [qm 60 13,qa 61 60 1,qm 13 61]))
def AJ:aw:=(.seq (sr [qm 55 13,qf 56 4 10,ql 57 56,qe 58 57,qlt 59 55 58] (.cond (.t 59) .skip (.exit 0))) To)
def Tn:aw:=(.seq (sr [qm 101 18,oq 102 (.bin .neq .num (.t 101) (xn 0))] (.cond (.t 102) (sr [oq 103 (.build zT []),qm 104 18,qs 5 8 103,qm 9 104] .ret) .skip)) (.region [qL 105 5 10,qL 106 5 17,oq 107 (.lit true true 5 zT 1 [(0,(.t 106))]),qc 108 74 [.t 105,.t 107],qs 5 10 108]))
def Tl:aw:=(.seq (.block 3 (sr [qm 91 0,qm 92 11,qm 93 16,qx 94 5 92 93,qL 95 5 94,qm 96 2,qm 97 3,qc 98 101 [.t 91,.t 95,.t 96,.t 97],qm 90 98,oq 99 (.extract (.t 90) 0),oq 100 (.extract (.t 90) 1),qz 17,qs 5 17 99,qm 18 100] Tn)) (.region [qm 88 16,qa 89 88 1,qm 16 89]))
def AI:aw:=(.seq (sr [qm 84 16,qm 85 11,qe 86 85,qlt 87 84 86] (.cond (.t 87) .skip (.exit 2))) Tl)
def Tk:aw:=(.seq (.block 5 (.seq (.draw [dq (qm 118 2) 0 0 false,dq (qm 119 19) 0 0 false,dq (qx 120 1 118 119) 0 0 false,dq (ql 121 120) 0 0 false,dq (qf 122 1 10) 0 0 true,dq (ql 123 122) 0 0 true,dq (oq 124 (.bin .eql .num (.t 121) (.t 123))) 0 0 true]) (.cond (.t 124) (sr [oq 125 (.build zT []),qs 5 8 125,qi 9 22] .ret) .skip))) (.region [qm 116 19,qa 117 116 1,qm 19 117]))
def Ho:aw:=(.seq (sr [qm 112 19,qm 113 2,qe 114 113,qlt 115 112 114] (.cond (.t 115) .skip (.exit 4))) Tk)
def Tj:aw:=(.seq (sr [qm 170 25,oq 171 (.bin .neq .num (.t 170) (xn 0))] (.cond (.t 171) (sr [oq 172 (.build zT []),qm 173 25,qs 5 8 172,qm 9 173] .ret) .skip)) (.region [qm 174 12,qL 175 5 24,oq 176 (.lit true true 5 zT 1 [(0,(.t 175))]),oq 177 (.builtin (.append 5 true zT 80) [.t 174,.t 176]),qm 12 177]))
def Ti:aw:=(.seq (.block 7 (sr [qm 160 0,qm 161 11,qm 162 23,qx 163 5 161 162,qL 164 5 163,qm 165 2,qm 166 3,qc 167 101 [.t 160,.t 164,.t 165,.t 166],qm 159 167,oq 168 (.extract (.t 159) 0),oq 169 (.extract (.t 159) 1),qz 24,qs 5 24 168,qm 25 169] Tj)) (.region [qm 157 23,qa 158 157 1,qm 23 158]))
def zU:aw:=(.seq (sr [qm 153 23,qm 154 11,qe 155 154,qlt 156 153 155] (.cond (.t 156) .skip (.exit 6))) Ti)
def zS:aw:=(.seq (sr [qm 178 12,qe 179 178,oq 180 (.bin .gtr .num (.t 179) (xn 0)),qm 181 180,og 182 (xf 0 21) 181 true,og 183 (xl 182) 181 true,og 184 (.bin .eql .num (.t 183) (xn 5)) 181 true,qd 185 181 184,qm 186 185,og 187 (xm 3) 186 true,og 188 (.nilChk (.t 187)) 186 true,og 189 (xf 4 188) 186 true,og 190 (xl 189) 186 true,og 191 (.un .not (.t 190)) 186 true,qd 192 186 191] (.cond (.t 192) .skip (.exit 8))) (.block 9 (.seq (.draw [dq (qm 193 3) 0 0 false,dq (qf 194 4 21) 0 0 false,dq (ql 195 194) 0 0 false,dq (oq 196 (.iaddr 5 (.t 195) (xn 1))) 0 0 false,dq (qL 197 5 196) 0 0 false,dq (qm 198 12) 0 0 true,dq (oq 199 (.slice false 5 (.t 198) none (some (xn 1)) none)) 0 0 true,dq (qc 200 150 [.t 193,.t 197,.t 199]) 0 1 true,dq (qs 5 21 200) 1 2 true]) (.region [qm 201 12,oq 202 (.slice false 5 (.t 201) (some (xn 1)) none none),qm 12 202]))))
def Ii:=sr [qL 209 5 21,qs 5 8 209,qi 9 0] .ret
def Ih:=sr [qm 206 3,qL 207 5 21,qc 208 102 [.t 206,.t 207,(xn 0)]] Ii
def Ig:=sr [qL 203 5 21,qm 204 12,qc 205 74 [.t 203,.t 204],qs 5 21 205] Ih
def Ie:aw:=(.seq (.block 8 (.loop zS)) Ig)
def Ic:aw:=(.seq (sr [qi 23 0] (.block 6 (.loop zU))) Ie)
def Ib:=sr [qm 150 3,qL 151 5 21,qc 152 102 [.t 150,.t 151,(xn 0)]] Ic
def Ia:aw:=(.seq (sr [qm 146 22,oq 147 (.bin .neq .num (.t 146) (xn 0))] (.cond (.t 147) (sr [oq 148 (.build zT []),qm 149 22,qs 5 8 148,qm 9 149] .ret) .skip)) Ib)
def HZ:=sr [qm 134 0,qm 135 0,qf 136 1 10,ql 137 136,qx 138 12 135 137,oq 139 (.faddr 6 5 true (.t 138)),qL 140 5 139,qm 141 20,qm 142 3,qc 143 101 [.t 134,.t 140,.t 141,.t 142],qm 133 143,oq 144 (.extract (.t 133) 0),oq 145 (.extract (.t 133) 1),qz 21,qs 5 21 144,qm 22 145] Ia
def HY:aw:=(.seq (.draw [dq (qm 126 20) 0 0 false,dq (qm 127 2) 0 0 false,dq (oq 128 (.builtin (.append 1 false [(.int .i64 0)] 8) [.t 126,.t 127])) 0 1 false,dq (qf 129 1 10) 0 1 true,dq (ql 130 129) 0 1 true,dq (oq 131 (.lit true false 1 [(.int .i64 0)] 1 [(0,(.t 130))])) 0 1 true,dq (oq 132 (.builtin (.append 1 false [(.int .i64 0)] 8) [.t 128,.t 131])) 1 2 true,dq (qm 20 132) 2 2 true]) HZ)
def HX:=sr [oq 20 (.mv (.c .nl))] HY
def rI:aw:=(.seq (sr [qi 19 0] (.block 4 (.loop Ho))) HX)
def zj:aw:=(.seq (sr [qf 36 0 10,ql 37 36,oq 38 (.bin .neq .num (.t 37) (xn 12)),qm 39 38,og 40 (xf 1 10) 39 false,og 41 (xl 40) 39 false,og 42 (xm 0) 39 false,og 43 (xe 42) 39 false,og 44 (.bin .geq .num (.t 41) (.t 43)) 39 false,qo 45 39 44,qm 46 45,og 47 (xm 0) 46 false,og 48 (xf 1 10) 46 false,og 49 (xl 48) 46 false,og 50 (xx 12 47 49) 46 false,og 51 (xf 5 50) 46 false,og 52 (xl 51) 46 false,og 53 (.un .not (.t 52)) 46 false,qo 54 46 53] (.cond (.t 54) (.seq (sr [qi 13 0] (.block 0 (.loop AJ))) (sr [qm 82 12,qf 83 4 10,qs 1 83 82] (.seq (sr [qi 16 0] (.block 2 (.loop AI))) (sr [qL 109 5 10,qm 110 3,qc 111 149 [.t 109,.t 110],qs 5 8 111,qi 9 0] .ret)))) .skip)) rI)
def HW:=sr [oq 12 (.mv (.c .nl))] zj
def HV:=sr [qL 32 5 5,qc 33 148 [.t 32],qm 31 33,oq 34 (.extract (.t 31) 0),oq 35 (.extract (.t 31) 1),qz 10,qs 5 10 34,qm 11 35] HW
def zi:aw:=(.seq (sr [qm 26 3,oq 27 (.nilChk (.t 26)),qf 28 4 27,ql 29 28] (.cond (.t 29) (sr [oq 30 (.build zT []),qs 5 8 30,qi 9 11] .ret) .skip)) HV)
def ae8:=sr [oq 5 (.box 5 (.t 1)),qz 8,qi 9 0] zi
def Dn:List bF:=[(.cell 8 true 5),(.tmp 9)]
theorem cf101:EF.cf 101=some ⟨210,Dn,ae8⟩:=by kernel_rfl
def tF:aw:=(.seq (.draw [dq (qm 15 2) 0 0 true,dq (oq 16 (.bin .neq .num (.t 15) (xn 0))) 0 0 true,dq (qm 17 16) 0 0 true,dq (og 18 (xm 0) 17 false) 0 0 false,dq (og 19 (.nilChk (.t 18)) 17 false) 0 0 false,dq (og 20 (xf 0 19) 17 false) 0 0 false,dq (og 21 (xl 20) 17 false) 0 0 false,dq (og 22 (xm 0) 17 false) 0 0 true,dq (og 23 (.nilChk (.t 22)) 17 false) 0 0 true,dq (og 24 (xf 3 23) 17 false) 0 0 true,dq (og 25 (xl 24) 17 false) 0 0 true,dq (og 26 (.bin .gtr .num (.t 21) (.t 25)) 17 false) 0 0 true,dq (qo 27 17 26) 0 0 true,dq (qm 28 27) 0 0 true,dq (og 29 (xm 0) 28 false) 0 0 false,dq (og 30 (.nilChk (.t 29)) 28 false) 0 0 false,dq (og 31 (xf 1 30) 28 false) 0 0 false,dq (og 32 (xl 31) 28 false) 0 0 false,dq (og 33 (xm 0) 28 false) 0 0 true,dq (og 34 (.nilChk (.t 33)) 28 false) 0 0 true,dq (og 35 (xf 3 34) 28 false) 0 0 true,dq (og 36 (xl 35) 28 false) 0 0 true,dq (og 37 (.bin .mul .num (xn 2) (.t 36)) 28 false) 0 0 true,dq (og 38 (.bin .gtr .num (.t 32) (.t 37)) 28 false) 0 0 true,dq (qo 39 28 38) 0 0 true,dq (qm 40 39) 0 0 true,dq (og 41 (xm 0) 40 false) 0 0 false,dq (og 42 (.nilChk (.t 41)) 40 false) 0 0 false,dq (og 43 (xf 2 42) 40 false) 0 0 false,dq (og 44 (xl 43) 40 false) 0 0 false,dq (og 45 (xm 0) 40 false) 0 0 true,dq (og 46 (.nilChk (.t 45)) 40 false) 0 0 true,dq (og 47 (xf 3 46) 40 false) 0 0 true,dq (og 48 (xl 47) 40 false) 0 0 true,dq (og 49 (.bin .mul .num (xn 40) (.t 48)) 40 false) 0 0 true,dq (og 50 (.bin .gtr .num (.t 44) (.t 49)) 40 false) 0 0 true,dq (qo 51 40 50) 0 0 true,dq (qm 52 51) 0 0 true,dq (og 53 (xL 5 4) 52 false) 0 0 true,dq (og 54 (xc 28 [.t 53]) 52 false) 0 1 true,dq (og 55 (.bin .gtr .num (.t 54) (xn 2000)) 52 false) 1 1 true,dq (qo 56 52 55) 1 1 true,dq (qm 57 56) 1 1 true,dq (og 58 (xL 5 4) 57 false) 1 1 true,dq (og 59 (xc 29 [.t 58]) 57 false) 1 2 true,dq (og 60 (.bin .gtr .num (.t 59) (xn 95)) 57 false) 2 2 true,dq (qo 61 57 60) 2 2 true]) (.cond (.t 61) (.region [qm 62 0,oq 63 (.nilChk (.t 62)),qf 64 4 63,⟨none,(.store 1 (.t 64) (.c (.bool true))),none⟩]) .skip))
def Th:aw:=(.seq (.draw [dq (qm 6 0) 0 1 false,dq (oq 7 (.nilChk (.t 6))) 0 1 false,dq (qf 8 2 7) 0 1 false,dq (ql 9 8) 0 1 false,dq (qL 10 5 4) 0 0 true,dq (qc 11 28 [.t 10]) 0 1 true,dq (oq 12 (.bin .add .num (.t 9) (.t 11))) 1 1 true,dq (oq 13 (.nilChk (.t 6))) 1 1 true,dq (qf 14 2 13) 1 1 true,dq (qs 1 14 12) 1 2 true]) tF)
def b102:=sr [oq 4 (.box 5 (.t 1))] Th
def r102:List bF:=[]
theorem cf102:EF.cf 102=some ⟨65,r102,b102⟩:=by kernel_rfl
def Tg:aw:=(.seq (.block 1 (.seq (.draw [dq (qm 16 0) 0 0 false,dq (qm 17 5) 0 0 false,dq (qx 18 1 16 17) 0 0 false,dq (ql 19 18) 0 0 false,dq (qf 20 1 3) 0 0 true,dq (ql 21 20) 0 0 true,dq (oq 22 (.bin .eql .num (.t 19) (.t 21))) 0 0 true]) (.cond (.t 22) (sr [qm 23 0,qm 4 23] .ret) .skip))) (.region [qm 14 5,qa 15 14 1,qm 5 15]))
def Ul:aw:=(.seq (sr [qm 10 5,qm 11 0,qe 12 11,qlt 13 10 12] (.cond (.t 13) .skip (.exit 0))) Tg)
def Tf:aw:=(.seq (.block 3 (.region [qm 36 0,qf 37 4 3,ql 38 37,qm 39 6,qx 40 5 38 39,qL 41 5 40,qc 42 103 [.t 36,.t 41],qm 0 42])) (.region [qm 34 6,qa 35 34 1,qm 6 35]))
def Uk:aw:=(.seq (sr [qm 29 6,qf 30 4 3,ql 31 30,qe 32 31,qlt 33 29 32] (.cond (.t 33) .skip (.exit 2))) Tf)
def Te:=sr [qm 43 0,qm 4 43] .ret
def GN:aw:=(.seq (sr [qi 6 0] (.block 2 (.loop Uk))) Te)
def GM:aw:=(.seq (sr [qf 7 0 3,ql 8 7,oq 9 (.bin .eql .num (.t 8) (xn 12))] (.cond (.t 9) (.seq (sr [qi 5 0] (.block 0 (.loop Ul))) (.region [qm 24 0,qf 25 1 3,ql 26 25,oq 27 (.lit true false 1 [(.int .i64 0)] 1 [(0,(.t 26))]),oq 28 (.builtin (.append 1 false [(.int .i64 0)] 8) [.t 24,.t 27]),qm 0 28])) .skip)) GN)
def b103:=sr [oq 3 (.box 5 (.t 1)),oq 4 (.mv (.c .nl))] GM
def acv:List bF:=[(.tmp 4)]
theorem cf103:EF.cf 103=some ⟨44,acv,b103⟩:=by kernel_rfl
def GL:aw:=(.seq (sr [qm 43 12,oq 44 (.bin .neq .num (.t 43) (xn 0))] (.cond (.t 44) (.region [qm 45 0,qm 46 12,qc 47 130 [.t 45,.t 46]]) .skip)) (.region [qm 48 9,qL 49 2 11,oq 50 (.lit true true 2 [(.int .i64 0),.nl] 1 [(0,(.t 49))]),oq 51 (.builtin (.append 2 true [(.int .i64 0),.nl] 32) [.t 48,.t 50]),qm 9 51]))
def GK:aw:=(.seq (sr [qm 32 3] (.cond (.t 32) (.region [qf 34 3 5,ql 35 34,qm 36 10,qx 37 2 35 36,qL 38 2 37,qm 39 2,qc 40 142 [.t 38,.t 39],qm 33 40,oq 41 (.extract (.t 33) 0),oq 42 (.extract (.t 33) 1),qs 2 11 41,qm 12 42]) .skip)) GL)
def GJ:aw:=(.seq (.block 1 (sr [qf 23 3 5,ql 24 23,qm 25 10,qx 26 2 24 25,qL 27 2 26,qm 28 2,qc 29 151 [.t 27,.t 28],qm 22 29,oq 30 (.extract (.t 22) 0),oq 31 (.extract (.t 22) 1),oq 11 (.new [(.int .i64 0),.nl]),qs 2 11 30,qm 12 31] GK)) (.region [qm 20 10,qa 21 20 1,qm 10 21]))
def Uj:aw:=(.seq (sr [qm 15 10,qf 16 3 5,ql 17 16,qe 18 17,qlt 19 15 18] (.cond (.t 19) .skip (.exit 0))) GJ)
def Td:aw:=(.seq (.block 3 (.region [qm 61 13,qm 62 0,qf 63 4 5,ql 64 63,qm 65 14,qx 66 5 64 65,qL 67 5 66,qm 68 2,qm 69 3,qc 70 104 [.t 62,.t 67,.t 68,.t 69],oq 71 (.lit true true 5 zT 1 [(0,(.t 70))]),oq 72 (.builtin (.append 5 true zT 80) [.t 61,.t 71]),qm 13 72])) (.region [qm 59 14,qa 60 59 1,qm 14 60]))
def Ui:aw:=(.seq (sr [qm 54 14,qf 55 4 5,ql 56 55,qe 57 56,qlt 58 54 57] (.cond (.t 58) .skip (.exit 2))) Td)
def Tc:=sr [qL 75 5 5,qs 5 8 75] .ret
def Tb:=sr [qm 73 13,qf 74 4 5,qs 1 74 73] Tc
def Ta:aw:=(.seq (sr [qi 14 0] (.block 2 (.loop Ui))) Tb)
def SZ:=sr [oq 13 (.mv (.c .nl))] Ta
def HU:=sr [qm 52 9,qf 53 3 5,qs 1 53 52] SZ
def HT:aw:=(.seq (sr [qi 10 0] (.block 0 (.loop Uj))) HU)
def HS:=sr [oq 9 (.mv (.c .nl))] HT
def b104:=sr [oq 5 (.box 5 (.t 1)),qz 8] HS
def r104:List bF:=[(.cell 8 true 5)]
theorem cf104:EF.cf 104=some ⟨76,r104,b104⟩:=by kernel_rfl
def GI:=sr [qm 4 2,oq 5 (.bin .neq (.iface true) (.t 4) (.c .nili))] (.cond (.t 5) (.region [oq 6 (.build zT []),qm 7 2,qc 8 106 [.t 7],qs 5 0 6,qs 1 1 8]) .skip)
def ae7:=sr [oq 3 (.builtin .recover []),qm 2 3] GI
def r105:List bF:=[]
theorem abH:EF.cf 105=some ⟨9,r105,ae7⟩:=by kernel_rfl
def SY:=sr [qm 13 3,qm 2 13] .ret
def SX:aw:=(.seq (sr [qm 10 4,oq 11 (.un .not (.t 10))] (.cond (.t 11) (.region [qm 12 0,⟨none,(.panic (.t 12)),none⟩]) .skip)) SY)
def SW:=sr [qm 6 0,oq 7 (.assert 30 (.int .i64 0) (.t 6) true),qm 5 7,oq 8 (.extract (.t 5) 0),oq 9 (.extract (.t 5) 1),qm 3 8,qm 4 9] SX
def b106:=sr [qi 2 0] SW
def r106:List bF:=[(.tmp 2)]
theorem cf106:EF.cf 106=some ⟨14,r106,b106⟩:=by kernel_rfl
def SU:=sr [ql 12 6,qm 2 12] .ret
def SS:=sr [oq 11 (.mkFn 154 [] [.t 5,.t 1,.t 7,.t 6]),qs 1 6 11] SU
def SR:=sr [oq 10 (.mkFn 152 [] [.t 3,.t 4,.t 6,.t 1]),oq 7 (.new [.nilf]),qs 1 7 10] SS
def SQ:=sr [oq 6 (.new [.nilf])] SR
def SP:=sr [oq 5 (.new [(.int .i64 0)]),⟨none,(.store 1 (.t 5) (xn 0)),none⟩] SQ
def SO:=sr [oq 8 .mkMap,oq 9 .mkMap,oq 3 (.new [.nilm]),oq 4 (.new [.nilm]),qs 1 3 8,qs 1 4 9] SP
def b107:=sr [oq 1 (.box 1 (.t 0)),oq 2 (.mv (.c .nilf))] SO
def r107:List bF:=[(.tmp 2)]
theorem cf107:EF.cf 107=some ⟨13,r107,b107⟩:=by kernel_rfl
def SN:=sr [qf 4 1 2,ql 5 4,oq 6 (.mkFn 110 [] [.t 1]),qc 7 109 [.t 5,.t 6],qm 3 7] .ret
def b108:=sr [oq 2 (.box 2 (.t 0)),qb 3 false] SN
def r108:List bF:=[(.tmp 3)]
theorem cf108:EF.cf 108=some ⟨8,r108,b108⟩:=by kernel_rfl
def GG:=sr [qf 4 0 2,ql 5 4,oq 6 (.bin .lss .num (.t 5) (xn 0)),qm 7 6,og 8 (xf 0 2) 7 true,og 9 (xl 8) 7 true,og 10 (.bin .sub .num (xn (-1)) (.t 9)) 7 true,og 11 (xl 1) 7 true,og 12 (.bin .geq .num (.t 10) (.t 11)) 7 true,qd 13 7 12,qm 3 13] .ret
def b110:=sr [oq 2 (.box 2 (.t 0)),qb 3 false] GG
def aeI:List bF:=[(.tmp 3)]
theorem cf110:EF.cf 110=some ⟨14,aeI,b110⟩:=by kernel_rfl
def SM:=sr [qm 5 0,qm 6 1,qc 7 160 [.t 5,.t 6],oq 8 (.bin .geq .num (.t 7) (xn 0)),qm 4 8] .ret
def b111:=sr [qb 4 false] SM
def r111:List bF:=[(.tmp 4)]
theorem cf111:EF.cf 111=some ⟨9,r111,b111⟩:=by kernel_rfl
def SL:=sr [qL 4 5 2,ql 5 1,qc 6 66 [.t 4,.t 5],qm 3 6] .ret
def b112:=sr [oq 2 (.box 5 (.t 0)),qb 3 false] SL
def r112:List bF:=[(.tmp 3)]
theorem cf112:EF.cf 112=some ⟨7,r112,b112⟩:=by kernel_rfl
def GF:=sr [oq 7 (.mkFn 162 [] [.t 3]),oq 8 (.build [.nilf] [(0,1,(.t 7))]),qL 9 5 2,qc 10 90 [.t 8,.t 9,(xn 0)],qs 5 4 10,⟨none,(.store 1 (.t 5) (xn 0)),none⟩] .ret
def GD:=sr [oq 6 (.mkFn 161 [] [.t 4,.t 5]),⟨none,(.defer (.t 6) []),none⟩] GF
def b113:=sr [oq 2 (.box 5 (.t 0)),oq 3 (.box 1 (.t 1)),qz 4,oq 5 (.new [(.int .i64 0)])] GD
def aeH:List bF:=[(.cell 4 true 5),(.cell 5 false 1)]
theorem cf113:EF.cf 113=some ⟨11,aeH,b113⟩:=by kernel_rfl
def SJ:=sr [qL 5 2 2,ql 6 1,qc 7 115 [.t 5,.t 6],oq 8 (.extract (.t 7) 0),oq 9 (.extract (.t 7) 1),qs 2 3 8,qm 4 9] .ret
def b114:=sr [oq 2 (.box 2 (.t 0)),oq 3 (.new [(.int .i64 0),.nl]),qi 4 0] SJ
def r114:List bF:=[(.cell 3 true 2),(.tmp 4)]
theorem cf114:EF.cf 114=some ⟨10,r114,b114⟩:=by kernel_rfl
def Sv:aw:=(.seq (.block 1 (.draw [dq (qm 47 11) 0 2 false,dq (qm 48 0) 0 1 false,dq (qf 49 4 6) 0 1 false,dq (ql 50 49) 0 1 false,dq (qm 51 12) 0 1 false,dq (qx 52 5 50 51) 0 1 false,dq (qL 53 5 52) 0 1 false,dq (qm 54 2) 0 1 false,dq (qm 55 3) 0 1 false,dq (qm 56 4) 0 1 false,dq (qf 57 0 6) 0 0 false,dq (ql 58 57) 0 0 false,dq (qm 59 12) 0 0 true,dq (qc 60 72 [.t 58,.t 59]) 0 1 true,dq (oq 61 (.bin .add .num (.t 56) (.t 60))) 1 1 true,dq (qc 62 118 [.t 48,.t 53,.t 54,.t 55,.t 61]) 1 2 true,dq (oq 63 (.lit true true 5 zT 1 [(0,(.t 62))])) 2 2 true,dq (oq 64 (.builtin (.append 5 true zT 80) [.t 47,.t 63])) 2 3 true,dq (qm 11 64) 3 3 true])) (.region [qm 45 12,qa 46 45 1,qm 12 46]))
def Ug:aw:=(.seq (sr [qm 40 12,qf 41 4 6,ql 42 41,qe 43 42,qlt 44 40 43] (.cond (.t 44) .skip (.exit 0))) Sv)
def Su:=sr [qL 67 5 6,qs 5 10 67] .ret
def Ss:=sr [qm 65 11,qf 66 4 6,qs 1 66 65] Su
def Sr:aw:=(.seq (sr [qi 12 0] (.block 0 (.loop Ug))) Ss)
def Sp:=sr [oq 11 (.mv (.c .nl))] Sr
def Sn:aw:=(.seq (sr [qf 13 0 6,ql 14 13,oq 15 (.bin .eql .num (.t 14) (xn 0))] (.cond (.t 15) (.seq (sr [qf 16 1 6,ql 17 16,qm 18 3,qm 19 4,oq 20 (.bin .add .num (.t 18) (.t 19)),qlt 21 17 20] (.cond (.t 21) (sr [qL 22 5 6,qs 5 10 22] .ret) .skip)) (.seq (sr [qf 23 1 6,ql 24 23,qm 25 2,oq 26 (.bin .add .num (.t 24) (.t 25)),qm 27 3,qm 28 4,oq 29 (.bin .add .num (.t 27) (.t 28)),qlt 30 26 29] (.cond (.t 30) (sr [qm 31 0,qc 32 130 [.t 31,(xn 24)]] (sr [qL 33 5 6,qs 5 10 33] .ret)) .skip)) (sr [qm 34 0,qf 35 1 6,ql 36 35,qm 37 2,oq 38 (.bin .add .num (.t 36) (.t 37)),qc 39 131 [.t 34,.t 38],qs 5 10 39] .ret))) .skip)) Sp)
def b118:=sr [oq 6 (.box 5 (.t 1)),qz 10] Sn
def acu:List bF:=[(.cell 10 true 5)]
theorem cf118:EF.cf 118=some ⟨68,acu,b118⟩:=by kernel_rfl
def RQ:aw:=(.seq (.draw [dq (qL 24 5 4) 0 1 false,dq (qm 25 5) 0 0 false,dq (qf 26 4 1) 0 0 true,dq (ql 27 26) 0 0 true,dq (oq 28 (.iaddr 5 (.t 27) (xn 1))) 0 0 true,dq (qL 29 5 28) 0 0 true,dq (oq 30 (.lit true true 5 zT 1 [(0,(.t 29))])) 0 0 true,dq (oq 31 (.builtin (.append 5 true zT 80) [.t 25,.t 30])) 0 1 true,dq (qs 5 2 24) 1 2 true,dq (qm 3 31) 2 2 true]) .ret)
def RP:=sr [qf 17 4 1,ql 18 17,oq 19 (.iaddr 5 (.t 18) (xn 0)),qL 20 5 19,qc 21 148 [.t 20],qm 16 21,oq 22 (.extract (.t 16) 0),oq 23 (.extract (.t 16) 1),qz 4,qs 5 4 22,qm 5 23] RQ
def RO:aw:=(.seq (sr [qf 6 0 1,ql 7 6,oq 8 (.bin .neq .num (.t 7) (xn 4)),qm 9 8,og 10 (xf 4 1) 9 false,og 11 (xl 10) 9 false,og 12 (xe 11) 9 false,og 13 (.bin .neq .num (.t 12) (xn 2)) 9 false,qo 14 9 13] (.cond (.t 14) (sr [qL 15 5 1,qs 5 2 15,oq 3 (.mv (.c .nl))] .ret) .skip)) RP)
def b148:=sr [oq 1 (.box 5 (.t 0)),qz 2,oq 3 (.mv (.c .nl))] RO
def acs:List bF:=[(.cell 2 true 5),(.tmp 3)]
theorem cf148:EF.cf 148=some ⟨32,acs,b148⟩:=by kernel_rfl
def Gs:=sr [qL 16 5 2,qs 5 4 16] .ret
def RN:aw:=(.seq (sr [qL 5 5 2,qc 6 28 [.t 5],oq 7 (.bin .gtr .num (.t 6) (xn 2000)),qm 8 7,og 9 (xL 5 2) 8 false,og 10 (xc 29 [.t 9]) 8 false,og 11 (.bin .gtr .num (.t 10) (xn 95)) 8 false,qo 12 8 11] (.cond (.t 12) (.region [qm 13 1,oq 14 (.nilChk (.t 13)),qf 15 4 14,⟨none,(.store 1 (.t 15) (.c (.bool true))),none⟩]) .skip)) Gs)
def b149:=sr [oq 2 (.box 5 (.t 0)),qz 4] RN
def aeC:List bF:=[(.cell 4 true 5)]
theorem cf149:EF.cf 149=some ⟨17,aeC,b149⟩:=by kernel_rfl
def RM:=sr [qL 19 5 7,qs 5 6 19] .ret
def RL:=sr [qm 15 0,qL 16 5 7,qm 17 8,qc 18 102 [.t 15,.t 16,.t 17]] RM
def RK:=sr [qL 10 5 4,qm 11 2,qc 12 203 [.t 10,.t 11],qm 9 12,oq 13 (.extract (.t 9) 0),oq 14 (.extract (.t 9) 1),qz 7,qs 5 7 13,qm 8 14] RL
def b150:=sr [oq 4 (.box 5 (.t 1)),qz 6] RK
def r150:List bF:=[(.cell 6 true 5)]
theorem cf150:EF.cf 150=some ⟨20,r150,b150⟩:=by kernel_rfl
def RJ:=sr [qL 21 2 2,qm 22 1,qc 23 201 [.t 21,.t 22,(.c (.bool false))],oq 24 (.extract (.t 23) 0),oq 25 (.extract (.t 23) 1),qs 2 4 24,qm 5 25] .ret
def Gr:aw:=(.seq (sr [qL 15 2 2,qc 16 204 [.t 15],qm 17 1,qe 18 17,oq 19 (.bin .gtr .num (.t 16) (.t 18))] (.cond (.t 19) (sr [oq 20 (.build [(.int .i64 0),.nl] []),qs 2 4 20,qi 5 24] .ret) .skip)) RJ)
def RI:aw:=(.seq (sr [qL 6 2 2,qc 7 21 [.t 6],oq 8 (.un .not (.t 7)),qm 9 8,og 10 (xm 1) 9 false,og 11 (xc 200 [.t 10]) 9 false,og 12 (.un .not (.t 11)) 9 false,qo 13 9 12] (.cond (.t 13) (sr [oq 14 (.build [(.int .i64 0),.nl] []),qs 2 4 14,qi 5 3] .ret) .skip)) Gr)
def b151:=sr [oq 2 (.box 2 (.t 0)),oq 4 (.new [(.int .i64 0),.nl]),qi 5 0] RI
def r151:List bF:=[(.cell 4 true 2),(.tmp 5)]
theorem cf151:EF.cf 151=some ⟨26,r151,b151⟩:=by kernel_rfl
def RH:=sr [ql 32 1,qm 33 0,oq 34 (.lookup 1 (.agg zT) (.t 32) (.t 33) false),qs 5 6 34] .ret
def Gq:aw:=(.seq (.draw [dq (ql 23 1) 0 1 false,dq (qm 24 0) 0 1 false,dq (ql 25 3) 0 0 false,dq (ql 26 4) 0 0 false,dq (qm 27 0) 0 0 true,dq (qx 28 12 26 27) 0 0 true,dq (oq 29 (.faddr 6 5 true (.t 28))) 0 0 true,dq (qL 30 5 29) 0 0 true,dq (oq 31 (.call (.t 25) [.t 30])) 0 1 true,(⟨none,(.mapUp 1 (.t 23) (.t 24) (.t 31)),none⟩,⟨1,2,true⟩)]) RH)
def Gp:=sr [ql 21 2,qm 22 0,⟨none,(.mapUp 1 (.t 21) (.t 22) (.c (.bool true))),none⟩] Gq
def Ao:aw:=(.seq (sr [ql 17 2,qm 18 0,oq 19 (.lookup 1 (.bool false) (.t 17) (.t 18) false)] (.cond (.t 19) (.region [qc 20 153 [(xn 22)]]) .skip)) Gp)
def Gn:aw:=(.seq (sr [ql 10 1,qm 11 0,oq 12 (.lookup 1 (.agg zT) (.t 10) (.t 11) true),qm 9 12,oq 13 (.extract (.t 9) 0),oq 14 (.extract (.t 9) 1),qz 7,qs 5 7 13,qm 8 14] (sr [qm 15 8] (.cond (.t 15) (sr [qL 16 5 7,qs 5 6 16] .ret) .skip))) Ao)
def b152:=sr [qz 6] Gn
def aeB:List bF:=[(.cell 6 true 5)]
theorem cf152:EF.cf 152=some ⟨35,aeB,b152⟩:=by kernel_rfl
def b153:aw:=(.region [qm 2 0,oq 3 (.mkIface 30 (.t 2)),⟨none,(.panic (.t 3)),none⟩])
def r153:List bF:=[]
theorem cf153:EF.cf 153=some ⟨4,r153,b153⟩:=by kernel_rfl
def Gm:aw:=(.seq (.block 1 (sr [qm 67 65,qx 68 5 63 65,qL 69 5 68,qz 12,qm 11 67,qs 5 12 69] (.region [qm 70 10,qm 71 11,ql 72 4,qL 73 5 12,oq 74 (.call (.t 72) [.t 73]),qx 75 5 70 71,qs 5 75 74]))) (.region [qa 76 65 1,qm 65 76]))
def RG:aw:=(.seq (.cond (.t 66) .skip (.exit 0)) Gm)
def Hn:=sr [qlt 66 65 64] RG
def Gl:aw:=(.seq (.block 3 (sr [qm 86 84,qx 87 5 82 84,qL 88 5 87,qz 15,qm 14 86,qs 5 15 88] (.region [qm 89 13,qm 90 14,ql 91 4,qL 92 5 15,oq 93 (.call (.t 91) [.t 92]),qx 94 5 89 90,qs 5 94 93]))) (.region [qa 95 84 1,qm 84 95]))
def RF:aw:=(.seq (.cond (.t 85) .skip (.exit 2)) Gl)
def Hm:=sr [qlt 85 84 83] RF
def AE:aw:=(.seq (sr [qm 96 9,qm 97 96,og 98 (xm 13) 97 true,og 99 (xe 98) 97 true,og 100 (.bin .gtr .num (.t 99) (xn 0)) 97 true,qd 101 97 100,qm 102 101,og 103 (xf 0 7) 102 true,og 104 (xl 103) 102 true,og 105 (.bin .eql .num (.t 104) (xn 5)) 102 true,qd 106 102 105] (.cond (.t 106) .skip (.exit 4))) (.block 5 (.seq (.draw [dq (qf 107 4 7) 0 0 false,dq (ql 108 107) 0 0 false,dq (oq 109 (.iaddr 5 (.t 108) (xn 1))) 0 0 false,dq (qL 110 5 109) 0 0 false,dq (qm 111 13) 0 0 true,dq (oq 112 (.slice false 5 (.t 111) none (some (xn 1)) none)) 0 0 true,dq (qc 113 157 [.t 110,.t 112]) 0 1 true,dq (oq 114 (.extract (.t 113) 0)) 1 1 false,dq (oq 115 (.extract (.t 113) 1)) 1 1 true,dq (qc 116 156 [.t 114,.t 115]) 1 2 true,dq (qs 5 7 116) 2 3 true]) (.region [qm 117 13,oq 118 (.slice false 5 (.t 117) (some (xn 1)) none none),qm 13 118]))))
def Gk:=sr [qL 119 5 7,qm 120 13,qc 121 158 [.t 119,.t 120],qc 122 156 [.t 121,(xn 0)],qs 5 6 122] .ret
def Gj:aw:=(.seq (.block 4 (.loop AE)) Gk)
def RE:aw:=(.seq (sr [qm 82 8,qe 83 82,qi 84 0] (.block 2 (.loop Hm))) Gj)
def zh:=sr [qm 79 8,qe 80 79,oq 81 (.mkSlice true 5 80 zT (.t 80) (.t 80)),qm 13 81] RE
def mT:aw:=(.seq (sr [qm 49 9] (.cond (.t 49) (.region [ql 50 3,qf 51 1 7,ql 52 51,oq 53 (.call (.t 50) [.t 52]),qs 5 7 53]) (sr [qf 54 4 7,ql 55 54,qe 56 55,oq 57 (.bin .gtr .num (.t 56) (xn 0))] (.cond (.t 57) (sr [qf 58 4 7,ql 59 58,qe 60 59,oq 61 (.mkSlice true 5 80 zT (.t 60) (.t 60)),qm 10 61] (.seq (sr [qf 62 4 7,ql 63 62,qe 64 63,qi 65 0] (.block 0 (.loop Hn))) (.region [qm 77 10,qf 78 4 7,qs 1 78 77]))) .skip)))) zh)
def rH:=sr [qf 26 0 7,ql 27 26,oq 28 (.bin .eql .num (.t 27) (xn 12)),qm 29 28,og 30 (xf 1 7) 29 true,og 31 (xl 30) 29 true,og 32 (.bin .geq .num (.t 31) (xn 0)) 29 true,qd 33 29 32,qm 34 33,og 35 (xf 1 7) 34 true,og 36 (xl 35) 34 true,og 37 (xl 2) 34 true,og 38 (xe 37) 34 true,og 39 (.bin .lss .num (.t 36) (.t 38)) 34 true,qd 40 34 39,qm 41 40,og 42 (xl 2) 41 true,og 43 (xf 1 7) 41 true,og 44 (xl 43) 41 true,og 45 (xx 12 42 44) 41 true,og 46 (xf 5 45) 41 true,og 47 (xl 46) 41 true,qd 48 41 47,qm 9 48] mT
def HP:=sr [qL 22 5 5,qc 23 155 [.t 22],qm 21 23,oq 24 (.extract (.t 21) 0),oq 25 (.extract (.t 21) 1),qz 7,qs 5 7 24,qm 8 25] rH
def HO:aw:=(.seq (sr [ql 16 1,qa 17 16 1,qs 1 1 17] (sr [ql 18 1,oq 19 (.bin .gtr .num (.t 18) (xn 8192000))] (.cond (.t 19) (.region [qc 20 153 [(xn 11)]]) .skip))) HP)
def b154:=sr [oq 5 (.box 5 (.t 0)),qz 6] HO
def LW:List bF:=[(.cell 6 true 5)]
theorem cf154:EF.cf 154=some ⟨123,LW,b154⟩:=by kernel_rfl
def Ud:aw:=(.seq (sr [qf 5 0 1,ql 6 5,oq 7 (.bin .eql .num (.t 6) (xn 4)),qm 8 7,og 9 (xf 4 1) 8 true,og 10 (xl 9) 8 true,og 11 (xe 10) 8 true,og 12 (.bin .eql .num (.t 11) (xn 2)) 8 true,qd 13 8 12] (.cond (.t 13) .skip (.exit 0))) (.block 1 (sr [qm 14 4,qf 15 4 1,ql 16 15,oq 17 (.iaddr 5 (.t 16) (xn 1)),qL 18 5 17,oq 19 (.lit true true 5 zT 1 [(0,(.t 18))]),oq 20 (.builtin (.append 5 true zT 80) [.t 14,.t 19]),qm 4 20] (.region [qf 21 4 1,ql 22 21,oq 23 (.iaddr 5 (.t 22) (xn 0)),qL 24 5 23,qs 5 1 24]))))
def RB:=sr [qL 27 5 1,qm 28 4,qs 5 2 27,qm 3 28] .ret
def Gi:=sr [qm 25 4,qc 26 205 [.t 25]] RB
def RA:aw:=(.seq (.block 0 (.loop Ud)) Gi)
def Rz:=sr [oq 4 (.mv (.c .nl))] RA
def b155:=sr [oq 1 (.box 5 (.t 0)),qz 2,oq 3 (.mv (.c .nl))] Rz
def aeA:List bF:=[(.cell 2 true 5),(.tmp 3)]
theorem cf155:EF.cf 155=some ⟨29,aeA,b155⟩:=by kernel_rfl
def Ry:=sr [qL 12 5 2,qs 5 4 12] .ret
def Rx:aw:=(.seq (sr [qm 5 1,oq 6 (.bin .neq .num (.t 5) (xn 0)),qm 7 6,og 8 (xL 5 2) 7 false,og 9 (xc 206 [.t 8]) 7 false,qo 10 7 9] (.cond (.t 10) (.region [qc 11 153 [(xn 11)]]) .skip)) Ry)
def b156:=sr [oq 2 (.box 5 (.t 0)),qz 4] Rx
def r156:List bF:=[(.cell 4 true 5)]
theorem cf156:EF.cf 156=some ⟨13,r156,b156⟩:=by kernel_rfl
def Ru:=sr [qL 6 5 2,qm 7 1,qc 8 207 [.t 6,.t 7,(xn 0)],oq 9 (.extract (.t 8) 0),oq 10 (.extract (.t 8) 1),qs 5 4 9,qm 5 10] .ret
def b157:=sr [oq 2 (.box 5 (.t 0)),qz 4,qi 5 0] Ru
def r157:List bF:=[(.cell 4 true 5),(.tmp 5)]
theorem cf157:EF.cf 157=some ⟨11,r157,b157⟩:=by kernel_rfl
def Rt:aw:=(.seq (.block 1 (sr [qx 11 5 7 9,qL 12 5 11,qz 6,qs 5 6 12] (.region [qL 13 5 2,qL 14 5 6,oq 15 (.lit true true 5 zT 2 [(0,(.t 13)),(1,(.t 14))]),oq 16 (.build zT [(0,1,(xn 4)),(4,1,(.t 15))]),qs 5 2 16]))) (.region [qa 17 9 1,qm 9 17]))
def Rs:aw:=(.seq (.cond (.t 10) .skip (.exit 0)) Rt)
def Uc:=sr [qlt 10 9 8] Rs
def Rq:=sr [qL 18 5 2,qs 5 4 18] .ret
def Rp:aw:=(.seq (sr [qm 7 1,qe 8 7,qi 9 0] (.block 0 (.loop Uc))) Rq)
def b158:=sr [oq 2 (.box 5 (.t 0)),qz 4] Rp
def r158:List bF:=[(.cell 4 true 5)]
theorem cf158:EF.cf 158=some ⟨19,r158,b158⟩:=by kernel_rfl
def Gd:=sr [qm 11 1,qm 12 0,qm 13 5,qx 14 5 12 13,qL 15 5 14,oq 16 (.call (.t 11) [.t 15])] (.cond (.t 16) (sr [qm 17 5,qm 4 17] .ret) .skip)
def Gc:aw:=(.seq (.block 1 (sr [qm 10 8,qm 5 10] Gd)) (.region [qa 18 8 1,qm 8 18]))
def Rm:aw:=(.seq (.cond (.t 9) .skip (.exit 0)) Gc)
def Ub:=sr [qlt 9 8 7] Rm
def Rl:=sr [qi 4 (-1)] .ret
def Rj:aw:=(.seq (sr [qm 6 0,qe 7 6,qi 8 0] (.block 0 (.loop Ub))) Rl)
def b160:=sr [qi 4 0] Rj
def aez:List bF:=[(.tmp 4)]
theorem cf160:EF.cf 160=some ⟨19,aez,b160⟩:=by kernel_rfl
def Gb:=sr [qm 4 2,oq 5 (.bin .neq (.iface true) (.t 4) (.c .nili))] (.cond (.t 5) (.region [oq 6 (.build zT []),qm 7 2,qc 8 84 [.t 7],qs 5 0 6,qs 1 1 8]) .skip)
def aeZ:=sr [oq 3 (.builtin .recover []),qm 2 3] Gb
def r161:List bF:=[]
theorem abE:EF.cf 161=some ⟨9,r161,aeZ⟩:=by kernel_rfl
def Ga:aw:=(.seq (sr [qm 28 11,oq 29 (.bin .neq .num (.t 28) (xn 0))] (.cond (.t 29) (.region [qm 30 11,qc 31 88 [.t 30]]) .skip)) (.region [qf 32 3 7,ql 33 32,qm 34 8,qL 35 2 10,qx 36 2 33 34,qs 2 36 35]))
def FZ:=sr [ql 23 2,qL 24 2 9,oq 25 (.call (.t 23) [.t 24]),qm 22 25,oq 26 (.extract (.t 22) 0),oq 27 (.extract (.t 22) 1),oq 10 (.new [(.int .i64 0),.nl]),qs 2 10 26,qm 11 27] Ga
def FY:aw:=(.seq (.block 1 (sr [qm 19 17,qx 20 2 15 17,qL 21 2 20,oq 9 (.new [(.int .i64 0),.nl]),qm 8 19,qs 2 9 21] FZ)) (.region [qa 37 17 1,qm 17 37]))
def Ri:aw:=(.seq (.cond (.t 18) .skip (.exit 0)) FY)
def Ua:=sr [qlt 18 17 16] Ri
def Rh:=sr [qL 38 5 7,qs 5 5 38,qb 6 false] .ret
def Rg:aw:=(.seq (sr [qf 14 3 3,ql 15 14,qe 16 15,qi 17 0] (.block 0 (.loop Ua))) Rh)
def Rf:=sr [qL 12 5 3,qc 13 87 [.t 12],qz 7,qs 5 7 13] Rg
def b162:=sr [oq 3 (.box 5 (.t 0)),qz 5,qb 6 false] Rf
def r162:List bF:=[(.cell 5 true 5),(.tmp 6)]
theorem cf162:EF.cf 162=some ⟨39,r162,b162⟩:=by kernel_rfl
def QE:=sr [qL 6 5 2,qm 7 1,qc 8 244 [.t 6,.t 7,(xn 0)],oq 9 (.extract (.t 8) 0),oq 10 (.extract (.t 8) 1),qs 5 4 9,qm 5 10] .ret
def b203:=sr [oq 2 (.box 5 (.t 0)),qz 4,qi 5 0] QE
def r203:List bF:=[(.cell 4 true 5),(.tmp 5)]
theorem cf203:EF.cf 203=some ⟨11,r203,b203⟩:=by kernel_rfl
def QD:=sr [qf 12 1 1,ql 13 12,qf 14 1 1,ql 15 14,qe 16 15,oq 17 (.bin .sub .num (.t 16) (xn 1)),qx 18 2 13 17,qf 19 0 18,ql 20 19,qa 21 20 1,oq 22 (.builtin .max [(xn 0),.t 21]),qm 2 22] .ret
def FM:aw:=(.seq (sr [qL 3 2 1,qc 4 21 [.t 3],oq 5 (.un .not (.t 4)),qm 6 5,og 7 (xf 1 1) 6 false,og 8 (xl 7) 6 false,og 9 (xe 8) 6 false,og 10 (.bin .eql .num (.t 9) (xn 0)) 6 false,qo 11 6 10] (.cond (.t 11) (sr [qi 2 0] .ret) .skip)) QD)
def b204:=sr [oq 1 (.box 2 (.t 0)),qi 2 0] FM
def aex:List bF:=[(.tmp 2)]
theorem cf204:EF.cf 204=some ⟨23,aex,b204⟩:=by kernel_rfl
def QC:aw:=(.seq (.block 1 (.draw [dq (qm 14 0) 0 0 false,dq (qm 15 2) 0 0 false,dq (qm 16 0) 0 1 false,dq (qm 17 3) 0 1 false,dq (qm 18 0) 0 0 false,dq (qm 19 3) 0 0 false,dq (qx 20 5 18 19) 0 0 false,dq (qL 21 5 20) 0 0 false,dq (qm 22 0) 0 0 false,dq (qm 23 2) 0 0 true,dq (qx 24 5 22 23) 0 0 true,dq (qL 25 5 24) 0 0 true,dq (qx 26 5 14 15) 0 0 true,dq (qs 5 26 21) 0 1 true,dq (qx 27 5 16 17) 1 1 true,dq (qs 5 27 25) 1 2 true])) (.region [qm 10 2,qa 11 10 1,qm 12 3,oq 13 (.bin .sub .num (.t 12) (xn 1)),qm 2 11,qm 3 13]))
def TU:aw:=(.seq (sr [qm 7 2,qm 8 3,qlt 9 7 8] (.cond (.t 9) .skip (.exit 0))) QC)
def b205:=sr [qm 4 0,qe 5 4,oq 6 (.bin .sub .num (.t 5) (xn 1)),qi 2 0,qm 3 6] (.block 0 (.loop TU))
def r205:List bF:=[]
theorem cf205:EF.cf 205=some ⟨28,r205,b205⟩:=by kernel_rfl
def QB:=sr [qL 3 5 1,qc 4 245 [.t 3],oq 5 (.bin .gtr .num (.t 4) (xn 4096)),qm 6 5,og 7 (xL 5 1) 6 false,og 8 (xc 246 [.t 7]) 6 false,og 9 (.bin .gtr .num (.t 8) (xn 200)) 6 false,qo 10 6 9,qm 2 10] .ret
def b206:=sr [oq 1 (.box 5 (.t 0)),qb 2 false] QB
def r206:List bF:=[(.tmp 2)]
theorem cf206:EF.cf 206=some ⟨11,r206,b206⟩:=by kernel_rfl
def QA:aw:=(.seq (.block 1 (sr [qm 25 23,qx 26 5 21 23,qL 27 5 26,qz 11,qm 10 25,qs 5 11 27] (.draw [dq (ql 28 9) 0 1 false,dq (qm 29 10) 0 1 false,dq (qL 30 5 11) 0 0 true,dq (qc 31 245 [.t 30]) 0 1 true,dq (qx 32 1 28 29) 1 1 true,dq (qs 1 32 31) 1 2 true]))) (.region [qa 33 23 1,qm 23 33]))
def Qz:aw:=(.seq (.cond (.t 24) .skip (.exit 0)) QA)
def TT:=sr [qlt 24 23 22] Qz
def Qy:=sr [qL 48 5 6,qs 5 6 48,⟨none,(.store 1 (.t 7) (xn 0)),none⟩] .ret
def Qx:aw:=(.seq (sr [qL 44 5 6,qc 45 246 [.t 44],oq 46 (.bin .gtr .num (.t 45) (xn 200))] (.cond (.t 46) (sr [oq 47 (.build zT []),qs 5 6 47,⟨none,(.store 1 (.t 7) (xn 7)),none⟩] .ret) .skip)) Qy)
def Qw:aw:=(.seq (.draw [dq (oq 40 (.mkFn 251 [] [.t 8,.t 4,.t 5])) 0 0 false,dq (qc 41 85 [.t 40]) 0 1 false,dq (qL 42 5 3) 0 1 true,dq (qc 43 90 [.t 41,.t 42,(xn 0)]) 1 2 true,dq (qs 5 6 43) 2 3 true]) Qx)
def Qv:=sr [oq 36 (.mkFn 249 [] [.t 8,.t 12,.t 9]),oq 37 (.build [.nilf] [(0,1,(.t 36))]),qL 38 5 3,qc 39 90 [.t 37,.t 38,(xn 0)]] Qw
def Qu:=sr [oq 34 (.build [(.int .i64 0)] []),oq 35 (.box 1 (.t 34)),oq 12 (.new [.nilp]),qs 1 12 35] Qv
def Qt:aw:=(.seq (sr [ql 21 4,qe 22 21,qi 23 0] (.block 0 (.loop TT))) Qu)
def Qs:=sr [ql 18 4,qe 19 18,oq 20 (.mkSlice false 1 8 [(.int .i64 0)] (.t 19) (.t 19)),oq 9 (.new [.nl]),qs 1 9 20] Qt
def HN:=sr [oq 17 (.mkFn 248 [] [.t 5,.t 4]),oq 8 (.new [.nilf]),qs 1 8 17] Qs
def HM:=sr [oq 16 (.mkFn 247 [] [.t 6,.t 7]),⟨none,(.defer (.t 16) []),none⟩] HN
def HL:aw:=(.seq (sr [ql 13 5,oq 14 (.bin .lss .num (.t 13) (xn 0))] (.cond (.t 14) (sr [oq 15 (.build zT []),qs 5 6 15,⟨none,(.store 1 (.t 7) (xn 2)),none⟩] .ret) .skip)) HM)
def b207:=sr [oq 3 (.box 5 (.t 0)),oq 4 (.box 1 (.t 1)),oq 5 (.box 1 (.t 2)),qz 6,oq 7 (.new [(.int .i64 0)])] HL
def r207:List bF:=[(.cell 6 true 5),(.cell 7 false 1)]
theorem cf207:EF.cf 207=some ⟨49,r207,b207⟩:=by kernel_rfl
def Ql:=sr [qL 41 5 9,qs 5 6 41,qi 7 0] .ret
def Qk:aw:=(.seq (sr [qL 37 5 9,qc 38 29 [.t 37],oq 39 (.bin .gtr .num (.t 38) (xn 200))] (.cond (.t 39) (sr [oq 40 (.build zT []),qs 5 6 40,qi 7 7] .ret) .skip)) Ql)
def Qj:aw:=(.seq (sr [qm 27 8,oq 28 (.nilChk (.t 27)),qf 29 0 28,ql 30 29,oq 31 (.bin .neq .num (.t 30) (xn 0))] (.cond (.t 31) (.seq (.draw [dq (oq 32 (.build zT [])) 0 0 false,dq (qm 33 8) 0 1 false,dq (oq 34 (.nilChk (.t 33))) 0 1 false,dq (qf 35 0 34) 0 1 false,dq (ql 36 35) 0 1 false,dq (qs 5 6 32) 0 1 true,dq (qm 7 36) 1 1 true]) .ret) .skip)) Qk)
def Qi:aw:=(.seq (sr [qm 21 8,oq 22 (.nilChk (.t 21)),qf 23 1 22,ql 24 23,oq 25 (.bin .gtr .num (.t 24) (xn 4096))] (.cond (.t 25) (sr [oq 26 (.build zT []),qs 5 6 26,qi 7 5] .ret) .skip)) Qj)
def Qh:=sr [qm 15 8,qL 16 5 3,qm 17 1,qm 18 2,oq 19 (.builtin .min [.t 18,(xn 65536)]),qc 20 279 [.t 15,.t 16,.t 17,.t 19],qz 9,qs 5 9 20] Qi
def Qg:=sr [oq 13 (.build [(.int .i64 0),(.int .i64 0)] []),oq 14 (.box 2 (.t 13)),qm 8 14] Qh
def Qf:aw:=(.seq (sr [qm 10 2,oq 11 (.bin .lss .num (.t 10) (xn 0))] (.cond (.t 11) (sr [oq 12 (.build zT []),qs 5 6 12,qi 7 2] .ret) .skip)) Qg)
def b244:=sr [oq 3 (.box 5 (.t 0)),qz 6,qi 7 0] Qf
def acq:List bF:=[(.cell 6 true 5),(.tmp 7)]
theorem cf244:EF.cf 244=some ⟨42,acq,b244⟩:=by kernel_rfl
def jl:aw:=.skip
def jk:aw:=(.block 1 (.region [ql 8 3,qa 9 8 1,qs 1 3 9]))
def Qe:=sr [ql 10 3,qm 2 10] .ret
def Qd:aw:=(.seq (sr [qL 4 5 1,qc 5 81 [.t 4]] (.block 0 (.rangeFunc (.t 5) [6,7] jl jk))) Qe)
def Qc:=sr [oq 3 (.new [(.int .i64 0)]),⟨none,(.store 1 (.t 3) (xn 0)),none⟩] Qd
def b245:=sr [oq 1 (.box 5 (.t 0)),qi 2 0] Qc
def r245:List bF:=[(.tmp 2)]
theorem cf245:EF.cf 245=some ⟨11,r245,b245⟩:=by kernel_rfl
def Qb:aw:=(.seq (.block 1 (sr [qx 11 5 7 9,qL 12 5 11,qz 5,qs 5 5 12] (.region [qm 13 3,qL 14 5 5,qc 15 246 [.t 14],oq 16 (.builtin .max [.t 13,.t 15]),qm 3 16]))) (.region [qa 17 9 1,qm 9 17]))
def Qa:aw:=(.seq (.cond (.t 10) .skip (.exit 0)) Qb)
def TR:=sr [qlt 10 9 8] Qa
def PZ:=sr [qm 18 3,qa 19 18 1,qm 2 19] .ret
def PY:aw:=(.seq (sr [qf 6 4 1,ql 7 6,qe 8 7,qi 9 0] (.block 0 (.loop TR))) PZ)
def PX:=sr [qi 3 0] PY
def aeX:=sr [oq 1 (.box 5 (.t 0)),qi 2 0] PX
def r246:List bF:=[(.tmp 2)]
theorem cf246:EF.cf 246=some ⟨20,r246,aeX⟩:=by kernel_rfl
def PW:=sr [qm 4 2,oq 5 (.bin .neq (.iface true) (.t 4) (.c .nili))] (.cond (.t 5) (.region [oq 6 (.build zT []),qm 7 2,qc 8 84 [.t 7],qs 5 0 6,qs 1 1 8]) .skip)
def b247:=sr [oq 3 (.builtin .recover []),qm 2 3] PW
def r247:List bF:=[]
theorem cf247:EF.cf 247=some ⟨9,r247,b247⟩:=by kernel_rfl
def FJ:=sr [qi 6 (-1)] .ret
def PV:aw:=(.seq (sr [qf 8 1 4,ql 9 8,qm 10 1,oq 11 (.bin .sub .num (.t 9) (.t 10)),ql 12 2,oq 13 (.bin .sub .num (.t 11) (.t 12)),qm 7 13] (sr [qm 14 7,oq 15 (.bin .geq .num (.t 14) (xn 0)),qm 16 15,og 17 (xm 7) 16 true,og 18 (xl 3) 16 true,og 19 (xe 18) 16 true,og 20 (.bin .lss .num (.t 17) (.t 19)) 16 true,qd 21 16 20] (.cond (.t 21) (sr [qm 22 7,qm 6 22] .ret) .skip))) FJ)
def b248:=sr [oq 4 (.box 5 (.t 0)),qi 6 0] PV
def aew:List bF:=[(.tmp 6)]
theorem cf248:EF.cf 248=some ⟨23,aew,b248⟩:=by kernel_rfl
def Af:aw:=(.seq (.draw [dq (oq 29 (.build zT [])) 0 0 false,dq (qf 30 0 5) 0 1 false,dq (ql 31 30) 0 1 false,dq (oq 32 (.bin .eql .num (.t 31) (xn 0))) 0 1 false,dq (qs 5 7 29) 0 1 true,dq (qm 8 32) 1 1 true]) .ret)
def PU:aw:=(.seq (sr [ql 10 2,qL 11 5 5,qm 12 1,oq 13 (.call (.t 10) [.t 11,.t 12]),qm 9 13] (sr [qf 14 0 5,ql 15 14,oq 16 (.bin .eql .num (.t 15) (xn 0)),qm 17 16,og 18 (xm 9) 17 true,og 19 (.bin .geq .num (.t 18) (xn 0)) 17 true,qd 20 17 19] (.cond (.t 20) (.draw [dq (ql 21 3) 0 0 false,dq (ql 22 4) 0 0 false,dq (qm 23 9) 0 0 true,dq (qx 24 1 22 23) 0 0 true,dq (ql 25 24) 0 0 true,dq (qc 26 250 [.t 21,.t 25]) 0 1 true]) (.region [ql 27 3,qc 28 250 [.t 27,(xn 1)]])))) Af)
def b249:=sr [oq 5 (.box 5 (.t 0)),qz 7,qb 8 false] PU
def acp:List bF:=[(.cell 7 true 5),(.tmp 8)]
theorem cf249:EF.cf 249=some ⟨33,acp,b249⟩:=by kernel_rfl
def PT:=sr [qm 12 0,oq 13 (.nilChk (.t 12)),qf 14 0 13,ql 15 14,oq 16 (.bin .gtr .num (.t 15) (xn 4096))] (.cond (.t 16) (.region [qc 17 88 [(xn 5)]]) .skip)
def b250:=sr [qm 4 0,oq 5 (.nilChk (.t 4)),qf 6 0 5,ql 7 6,qm 8 1,oq 9 (.bin .add .num (.t 7) (.t 8)),oq 10 (.nilChk (.t 4)),qf 11 0 10,qs 1 11 9] PT
def r250:List bF:=[]
theorem cf250:EF.cf 250=some ⟨18,r250,b250⟩:=by kernel_rfl
def PS:=sr [qf 31 1 5,ql 32 31,ql 33 3,qe 34 33,oq 35 (.bin .sub .num (.t 32) (.t 34)),qc 36 89 [.t 35],qs 5 7 36] .ret
def PR:aw:=(.seq (sr [qf 23 1 5,ql 24 23,qm 25 1,oq 26 (.bin .sub .num (.t 24) (.t 25)),ql 27 4,qlt 28 26 27] (.cond (.t 28) (sr [qL 29 5 5,qc 30 87 [.t 29],qs 5 7 30] .ret) .skip)) PS)
def PQ:aw:=(.seq (sr [ql 9 2,qL 10 5 5,qm 11 1,oq 12 (.call (.t 9) [.t 10,.t 11]),qm 8 12] (sr [qm 13 8,oq 14 (.bin .geq .num (.t 13) (xn 0))] (.cond (.t 14) (.seq (.draw [dq (ql 15 3) 0 0 false,dq (qm 16 8) 0 0 false,dq (qx 17 5 15 16) 0 0 false,dq (qL 18 5 17) 0 0 false,dq (ql 19 4) 0 0 false,dq (qm 20 1) 0 0 true,dq (oq 21 (.bin .add .num (.t 19) (.t 20))) 0 0 true,dq (qc 22 252 [.t 18,.t 21,(xn 0)]) 0 1 true,dq (qs 5 7 22) 1 2 true]) .ret) .skip))) PR)
def b251:=sr [oq 5 (.box 5 (.t 0)),qz 7] PQ
def aev:List bF:=[(.cell 7 true 5)]
theorem cf251:EF.cf 251=some ⟨37,aev,b251⟩:=by kernel_rfl
def PO:aw:=(.seq (.draw [dq (oq 7 (.mkFn 280 [] [.t 5,.t 4])) 0 0 false,dq (qc 8 85 [.t 7]) 0 1 false,dq (qL 9 5 3) 0 1 true,dq (qc 10 90 [.t 8,.t 9,(xn 0)]) 1 2 true,dq (qs 5 6 10) 2 3 true]) .ret)
def b252:=sr [oq 3 (.box 5 (.t 0)),oq 4 (.box 1 (.t 1)),oq 5 (.box 1 (.t 2)),qz 6] PO
def r252:List bF:=[(.cell 6 true 5)]
theorem cf252:EF.cf 252=some ⟨11,r252,b252⟩:=by kernel_rfl
def PN:aw:=(.seq (.block 1 (.draw [dq (qm 85 10) 0 2 false,dq (qm 86 0) 0 1 false,dq (qf 87 4 5) 0 1 false,dq (ql 88 87) 0 1 false,dq (qm 89 11) 0 1 false,dq (qx 90 5 88 89) 0 1 false,dq (qL 91 5 90) 0 1 false,dq (qm 92 2) 0 1 false,dq (qm 93 3) 0 1 false,dq (qf 94 0 5) 0 0 false,dq (ql 95 94) 0 0 false,dq (qm 96 11) 0 0 true,dq (qc 97 72 [.t 95,.t 96]) 0 1 true,dq (oq 98 (.bin .add .num (.t 93) (.t 97))) 1 1 true,dq (qc 99 279 [.t 86,.t 91,.t 92,.t 98]) 1 2 true,dq (oq 100 (.lit true true 5 zT 1 [(0,(.t 99))])) 2 2 true,dq (oq 101 (.builtin (.append 5 true zT 80) [.t 85,.t 100])) 2 3 true,dq (qm 10 101) 3 3 true])) (.region [qm 83 11,qa 84 83 1,qm 11 84]))
def TQ:aw:=(.seq (sr [qm 78 11,qf 79 4 5,ql 80 79,qe 81 80,qlt 82 78 81] (.cond (.t 82) .skip (.exit 0))) PN)
def PM:=sr [qL 104 5 5,qs 5 8 104] .ret
def PK:=sr [qm 102 10,qf 103 4 5,qs 1 103 102] PM
def PJ:aw:=(.seq (sr [qi 11 0] (.block 0 (.loop TQ))) PK)
def PI:=sr [oq 10 (.mv (.c .nl))] PJ
def Ae:aw:=(.seq (sr [qf 63 0 5,ql 64 63,oq 65 (.bin .eql .num (.t 64) (xn 0))] (.cond (.t 65) (.seq (sr [qf 66 1 5,ql 67 66,qm 68 3,oq 69 (.bin .geq .num (.t 67) (.t 68))] (.cond (.t 69) (sr [qm 70 0,qf 71 1 5,ql 72 71,qm 73 2,qe 74 73,oq 75 (.bin .sub .num (.t 72) (.t 74)),qc 76 131 [.t 70,.t 75],qs 5 8 76] .ret) .skip)) (sr [qL 77 5 5,qs 5 8 77] .ret)) .skip)) PI)
def Ad:=sr [qm 56 0,oq 57 (.nilChk (.t 56)),qf 58 1 57,ql 59 58,qa 60 59 1,oq 61 (.nilChk (.t 56)),qf 62 1 61,qs 1 62 60] Ae
def wC:aw:=(.seq (sr [qf 18 0 5,ql 19 18,oq 20 (.bin .eql .num (.t 19) (xn 0)),qm 21 20,og 22 (xf 1 5) 21 true,og 23 (xl 22) 21 true,og 24 (xm 3) 21 true,og 25 (.bin .geq .num (.t 23) (.t 24)) 21 true,qd 26 21 25,qm 27 26,og 28 (xf 1 5) 27 true,og 29 (xl 28) 27 true,og 30 (xm 3) 27 true,og 31 (.bin .sub .num (.t 29) (.t 30)) 27 true,og 32 (xm 2) 27 true,og 33 (xe 32) 27 true,og 34 (.bin .lss .num (.t 31) (.t 33)) 27 true,qd 35 27 34] (.cond (.t 35) (sr [qm 36 2,qf 37 1 5,ql 38 37,qm 39 3,oq 40 (.bin .sub .num (.t 38) (.t 39)),qx 41 5 36 40,qL 42 5 41,qz 9,qs 5 9 42] (.seq (.draw [dq (qm 43 0) 0 1 false,dq (oq 44 (.nilChk (.t 43))) 0 1 false,dq (qf 45 1 44) 0 1 false,dq (ql 46 45) 0 1 false,dq (qL 47 5 9) 0 0 true,dq (qc 48 28 [.t 47]) 0 1 true,dq (oq 49 (.bin .add .num (.t 46) (.t 48))) 1 1 true,dq (oq 50 (.nilChk (.t 43))) 1 1 true,dq (qf 51 1 50) 1 1 true,dq (qs 1 51 49) 1 2 true]) (sr [qm 52 0,qL 53 5 9,qm 54 3,qc 55 118 [.t 52,.t 53,.t 54,(xn 0),(xn 0)],qs 5 8 55] .ret))) .skip)) Ad)
def PH:aw:=(.seq (sr [qm 12 0,oq 13 (.nilChk (.t 12)),qf 14 1 13,ql 15 14,oq 16 (.bin .gtr .num (.t 15) (xn 4096))] (.cond (.t 16) (sr [qL 17 5 5,qs 5 8 17] .ret) .skip)) wC)
def b279:=sr [oq 5 (.box 5 (.t 1)),qz 8] PH
def Ut:List bF:=[(.cell 8 true 5)]
theorem cf279:EF.cf 279=some ⟨105,Ut,b279⟩:=by kernel_rfl
def PE:=sr [qf 27 1 4,ql 28 27,ql 29 3,oq 30 (.bin .add .num (.t 28) (.t 29)),qc 31 89 [.t 30],qs 5 6 31] .ret
def PD:aw:=(.seq (sr [ql 17 3,oq 18 (.bin .lss .num (.t 17) (xn 0)),qm 19 18,og 20 (xm 7) 19 true,og 21 (xl 2) 19 true,og 22 (xl 3) 19 true,og 23 (.bin .sub .num (.t 21) (.t 22)) 19 true,og 24 (.bin .lss .num (.t 20) (.t 23)) 19 true,qd 25 19 24] (.cond (.t 25) (.region [qc 26 88 [(xn 24)]]) .skip)) PE)
def PC:aw:=(.seq (sr [qm 12 7,ql 13 2,qlt 14 12 13] (.cond (.t 14) (sr [qL 15 5 4,qc 16 87 [.t 15],qs 5 6 16] .ret) .skip)) PD)
def PB:=sr [qf 8 1 4,ql 9 8,qm 10 1,oq 11 (.bin .sub .num (.t 9) (.t 10)),qm 7 11] PC
def b280:=sr [oq 4 (.box 5 (.t 0)),qz 6] PB
def aeu:List bF:=[(.cell 6 true 5)]
theorem cf280:EF.cf 280=some ⟨32,aeu,b280⟩:=by kernel_rfl
