/- UnifyInverts: the compiled code of the functions that it reaches with its own input (printed by a program of ours out of the evaluator's compiler; no condition). -/
import Derived.Test.YtnacljdablhbgaaGreatProg
import Derived.Test.YtnacljdablhbgaaGreatAk
import Derived.KernelRfl
namespace Go.Proofs.YtnacljdablhbgaaGreat
open Go.AG
abbrev oq (d:Nat)(x:AOp):aX:=⟨some d,x,none⟩
abbrev og (d:Nat)(x:AOp)(g:Nat)(b:Bool):aX:=⟨some d,x,some (g,b)⟩
def bs (l:List UInt8):ByteArray:=⟨⟨l⟩⟩
abbrev zT:List AV:=[.int .i64 0,.int .i64 0,.str (bs []),.nl,.nl]
abbrev xn (v:Int):AX:=.c (.int .i64 v)
abbrev xm (s:Nat):AOp:=.mv (.t s)
abbrev xf (a p:Nat):AOp:=.faddr a 1 false (.t p)
abbrev xl (p:Nat):AOp:=.load false 1 (.t p)
abbrev xL (n p:Nat):AOp:=.load true n (.t p)
abbrev xe (p:Nat):AOp:=.builtin (.len 1) [.t p]
abbrev xx (n a b:Nat):AOp:=.iaddr n (.t a) (.t b)
abbrev xc (f:Nat)(l:List AX):AOp:=.call (.c (.fn f [] [])) l
abbrev qm (d s:Nat):aX:=⟨some d,.mv (.t s),none⟩
abbrev qf (d a p:Nat):aX:=⟨some d,.faddr a 1 false (.t p),none⟩
abbrev ql (d p:Nat):aX:=⟨some d,.load false 1 (.t p),none⟩
abbrev qL (d n p:Nat):aX:=⟨some d,.load true n (.t p),none⟩
abbrev qe (d p:Nat):aX:=⟨some d,.builtin (.len 1) [.t p],none⟩
abbrev qx (d n a b:Nat):aX:=⟨some d,.iaddr n (.t a) (.t b),none⟩
abbrev qc (d f:Nat)(l:List AX):aX:=⟨some d,.call (.c (.fn f [] [])) l,none⟩
abbrev qi (d:Nat)(v:Int):aX:=⟨some d,.mv (.c (.int .i64 v)),none⟩
abbrev qb (d:Nat)(v:Bool):aX:=⟨some d,.mv (.c (.bool v)),none⟩
abbrev qa (d p:Nat)(v:Int):aX:=⟨some d,.bin .add .num (.t p) (.c (.int .i64 v)),none⟩
abbrev qlt (d a b:Nat):aX:=⟨some d,.bin .lss .num (.t a) (.t b),none⟩
abbrev qo (d a b:Nat):aX:=⟨some d,.pick (.t a) (.c (.bool true)) (.t b),none⟩
abbrev qd (d a b:Nat):aX:=⟨some d,.pick (.t a) (.t b) (.c (.bool false)),none⟩
abbrev qz (d:Nat):aX:=⟨some d,.new zT,none⟩
abbrev qs (n a b:Nat):aX:=⟨none,.store n (.t a) (.t b),none⟩
abbrev sr (l:List aX)(c:aw):aw:=.seq (.region l) c
abbrev dq (o:aX)(a b:Nat)(c:Bool):aX×DI:=(o,⟨a,b,c⟩)
def tx (t:Nat):Bool:=Nat.beq t 38
def aeN (f:Nat):Bool:=Nat.beq f 85||Nat.beq f 81
noncomputable def EI:AG.Env:=Fm Tryz.prog tx (fun f=>!(aeN f))
def s3_0:=sr [qm 36 6,qm 37 8,oq 38 (.bin .eql .num (.t 36) (.t 37)),qm 39 38,og 40 (xL 5 5) 39 true,og 41 (xL 5 7) 39 true,og 42 (xc 11 [.t 40,.t 41]) 39 true,qd 43 39 42,qm 44 43,og 45 (xc 8 []) 44 true,qd 46 44 45,qm 4 46] .ret
def s3_1:=sr [qm 31 0,qL 32 5 3,qc 33 10 [.t 31,.t 32],qm 30 33,oq 34 (.extract (.t 30) 0),oq 35 (.extract (.t 30) 1),qz 7,qs 5 7 34,qm 8 35] s3_0
def s3_2:=sr [qm 25 0,qL 26 5 3,qc 27 9 [.t 25,.t 26],qm 24 27,oq 28 (.extract (.t 24) 0),oq 29 (.extract (.t 24) 1),qz 5,qs 5 5 28,qm 6 29] s3_1
def s3_3:aw:=(.seq (sr [qm 9 0,qe 10 9,oq 11 (.bin .gtr .num (.t 10) (xn 20)),qm 12 11,og 13 (xL 5 3) 12 false,og 14 (.lit true true 5 zT 1 [(0,(.t 13))]) 12 false,og 15 (xc 6 [.t 14]) 12 false,og 16 (.un .not (.t 15)) 12 false,qo 17 12 16,qm 18 17,og 19 (xL 5 3) 18 false,og 20 (xc 7 [.t 19,(xn 1000),(xn 8),(xn 65536),(xn 65536)]) 18 false,og 21 (.bin .neq .num (.t 20) (xn 0)) 18 false,qo 22 18 21] (.cond (.t 22) (sr [qc 23 8 [],qm 4 23] .ret) .skip)) s3_2)
def b3:=sr [oq 3 (.box 5 (.t 1)),qb 4 false] s3_3
def r3:List bF:=[(.tmp 4)]
def s6_0:=sr [qf 14 2 4,ql 15 14,oq 16 (.builtin (.len 0) [.t 15]),oq 17 (.bin .gtr .num (.t 16) (xn 200)),qm 18 17,og 19 (xf 3 4) 18 false,og 20 (xl 19) 18 false,og 21 (xe 20) 18 false,og 22 (.bin .gtr .num (.t 21) (xn 20)) 18 false,qo 23 18 22,qm 24 23,og 25 (xf 3 4) 24 false,og 26 (xl 25) 24 false,og 27 (.call (.c (.fn 25 [] [])) [.t 26,(.c (.fn 26 [] []))]) 24 false,qo 28 24 27,qm 29 28,og 30 (xf 4 4) 29 false,og 31 (xl 30) 29 false,og 32 (xc 6 [.t 31]) 29 false,og 33 (.un .not (.t 32)) 29 false,qo 34 29 33] (.cond (.t 34) (sr [qb 2 false] .ret) .skip)
def s6_1:aw:=(.seq (.block 1 (sr [qx 12 5 8 10,qL 13 5 12,qz 4,qs 5 4 13] s6_0)) (.region [qa 35 10 1,qm 10 35]))
def s6_2:aw:=(.seq (.cond (.t 11) .skip (.exit 0)) s6_1)
def b6_3:=sr [qlt 11 10 9] s6_2
def s6_4:=sr [qb 2 true] .ret
def s6_5:aw:=(.seq (sr [qm 8 0,qe 9 8,qi 10 0] (.block 0 (.loop b6_3))) s6_4)
def s6_6:aw:=(.seq (sr [qm 5 0,qc 6 24 [(xn 200),.t 5],oq 7 (.bin .gtr .num (.t 6) (xn 200))] (.cond (.t 7) (sr [qb 2 false] .ret) .skip)) s6_5)
def b6:=sr [qb 2 false] s6_6
def r6:List bF:=[(.tmp 2)]
theorem cf6:EI.cf 6=some ⟨36,r6,b6⟩:=by kernel_rfl
def s7_0:=sr [qi 10 0] .ret
def s7_1:aw:=(.seq (sr [qL 25 5 5,qc 26 29 [.t 25],oq 27 (.bin .gtr .num (.t 26) (xn 200))] (.cond (.t 27) (sr [qi 10 7] .ret) .skip)) s7_0)
def s7_2:aw:=(.seq (sr [qL 22 5 5,qc 23 28 [.t 22],oq 24 (.bin .gtr .num (.t 23) (xn 4096))] (.cond (.t 24) (sr [qi 10 5] .ret) .skip)) s7_1)
def s7_3:aw:=(.seq (sr [qL 12 5 5,qm 13 1,oq 14 (.builtin .max [.t 13,(xn 0)]),qm 15 2,qm 16 3,qm 17 4,qc 18 27 [.t 12,(xn 0),.t 14,.t 15,.t 16,.t 17],qm 11 18] (sr [qm 19 11,oq 20 (.bin .neq .num (.t 19) (xn 0))] (.cond (.t 20) (sr [qm 21 11,qm 10 21] .ret) .skip))) s7_2)
def b7:=sr [oq 5 (.box 5 (.t 0)),qi 10 0] s7_3
def r7:List bF:=[(.tmp 10)]
theorem cf7:EI.cf 7=some ⟨28,r7,b7⟩:=by kernel_rfl
def r9:List bF:=[(.cell 4 true 5),(.tmp 5)]
def s10_0:aw:=(.seq (.block 1 (.seq (.draw [dq (qm 17 0) 0 0 false,dq (qm 18 6) 0 0 true,dq (qx 19 1 17 18) 0 0 true,dq (ql 20 19) 0 0 true,dq (oq 21 (.bin .lss .num (.t 20) (xn 0))) 0 0 true,dq (qm 22 21) 0 0 true,dq (og 23 (xm 0) 22 false) 0 0 false,dq (og 24 (xm 6) 22 false) 0 0 false,dq (og 25 (.slice false 1 (.t 23) none (some (.t 24)) none) 22 false) 0 0 false,dq (og 26 (xm 0) 22 false) 0 0 false,dq (og 27 (xm 6) 22 false) 0 0 true,dq (og 28 (xx 1 26 27) 22 false) 0 0 true,dq (og 29 (xl 28) 22 false) 0 0 true,dq (og 30 (xc 44 [.t 25,.t 29]) 22 false) 0 1 true,dq (qo 31 22 30) 1 1 true]) (.cond (.t 31) (sr [oq 32 (.build zT []),qs 5 4 32,qi 5 1] .ret) .skip))) (.region [qm 15 6,qa 16 15 1,qm 6 16]))
def b10_1:aw:=(.seq (sr [qm 11 6,qm 12 0,qe 13 12,qlt 14 11 13] (.cond (.t 14) .skip (.exit 0))) s10_0)
def b10_2:aw:=(.seq (sr [qm 41 8,qe 42 41,qm 43 7,qm 44 9,qx 45 1 43 44,ql 46 45,oq 47 (.bin .leq .num (.t 42) (.t 46)),qm 48 47,og 49 (xm 8) 48 true,og 50 (xe 49) 48 true,og 51 (.bin .lss .num (.t 50) (xn 100000)) 48 true,qd 52 48 51] (.cond (.t 52) .skip (.exit 4))) (.block 5 (.region [qm 53 8,oq 54 (.lit true false 1 [(.int .i64 0)] 1 [(0,(xn (-1)))]),oq 55 (.builtin (.append 1 false [(.int .i64 0)] 8) [.t 53,.t 54]),qm 8 55])))
def s10_3:aw:=(.seq (.block 7 (.seq (.draw [dq (qm 62 0) 0 0 false,dq (qm 63 10) 0 0 false,dq (qx 64 1 62 63) 0 0 false,dq (ql 65 64) 0 0 false,dq (qm 66 7) 0 0 false,dq (qm 67 9) 0 0 true,dq (qx 68 1 66 67) 0 0 true,dq (ql 69 68) 0 0 true,dq (oq 70 (.bin .eql .num (.t 65) (.t 69))) 0 0 true,dq (qm 71 70) 0 0 true,dq (og 72 (xm 7) 71 true) 0 0 false,dq (og 73 (xm 9) 71 true) 0 0 false,dq (og 74 (xx 1 72 73) 71 true) 0 0 false,dq (og 75 (xl 74) 71 true) 0 0 false,dq (og 76 (xm 8) 71 true) 0 0 true,dq (og 77 (xe 76) 71 true) 0 0 true,dq (og 78 (.bin .lss .num (.t 75) (.t 77)) 71 true) 0 0 true,dq (qd 79 71 78) 0 0 true]) (.cond (.t 79) (.region [qm 80 8,qm 81 7,qm 82 9,qx 83 1 81 82,ql 84 83,qm 85 0,qe 86 85,oq 87 (.bin .sub .num (.t 86) (xn 1)),qm 88 10,oq 89 (.bin .sub .num (.t 87) (.t 88)),qx 90 1 80 84,qs 1 90 89]) .skip))) (.region [qm 60 10,qa 61 60 1,qm 10 61]))
def b10_4:aw:=(.seq (sr [qm 56 10,qm 57 0,qe 58 57,qlt 59 56 58] (.cond (.t 59) .skip (.exit 6))) s10_3)
def s10_5:=sr [qi 10 0] (.block 6 (.loop b10_4))
def s10_6:aw:=(.seq (.block 3 (.seq (.block 4 (.loop b10_2)) s10_5)) (.region [qm 39 9,qa 40 39 1,qm 9 40]))
def b10_7:aw:=(.seq (sr [qm 35 9,qm 36 7,qe 37 36,qlt 38 35 37] (.cond (.t 38) .skip (.exit 2))) s10_6)
def s10_8:=sr [qL 91 5 3,qm 92 8,qc 93 46 [.t 91,.t 92],oq 94 (.extract (.t 93) 0),oq 95 (.extract (.t 93) 1),qs 5 4 94,qm 5 95] .ret
def s10_9:aw:=(.seq (sr [qi 9 0] (.block 2 (.loop b10_7))) s10_8)
def ac5:=sr [oq 8 (.mv (.c .nl))] s10_9
def ac4:=sr [qL 33 5 3,qc 34 45 [.t 33],qm 7 34] ac5
def ac3:aw:=(.seq (sr [qi 6 0] (.block 0 (.loop b10_1))) ac4)
def b10:=sr [oq 3 (.box 5 (.t 1)),qz 4,qi 5 0] ac3
def abj:aw:=(.seq (.block 1 (.seq (.draw [dq (qf 49 4 2) 0 0 false,dq (ql 50 49) 0 0 false,dq (qm 51 5) 0 0 false,dq (qx 52 5 50 51) 0 0 false,dq (qL 53 5 52) 0 0 false,dq (qf 54 4 3) 0 0 false,dq (ql 55 54) 0 0 false,dq (qm 56 5) 0 0 true,dq (qx 57 5 55 56) 0 0 true,dq (qL 58 5 57) 0 0 true,dq (qc 59 11 [.t 53,.t 58]) 0 1 true,dq (oq 60 (.un .not (.t 59))) 1 1 true]) (.cond (.t 60) (sr [qb 4 false] .ret) .skip))) (.region [qm 47 5,qa 48 47 1,qm 5 48]))
def VX:aw:=(.seq (sr [qm 42 5,qf 43 4 2,ql 44 43,qe 45 44,qlt 46 42 45] (.cond (.t 46) .skip (.exit 0))) abj)
def VA:=sr [qb 4 true] .ret
def Mr:aw:=(.seq (sr [qi 5 0] (.block 0 (.loop VX))) VA)
def vT:aw:=(.seq (sr [qf 6 0 2,ql 7 6,qf 8 0 3,ql 9 8,oq 10 (.bin .neq .num (.t 7) (.t 9)),qm 11 10,og 12 (xf 1 2) 11 false,og 13 (xl 12) 11 false,og 14 (xf 1 3) 11 false,og 15 (xl 14) 11 false,og 16 (.bin .neq .num (.t 13) (.t 15)) 11 false,qo 17 11 16,qm 18 17,og 19 (xf 2 2) 18 false,og 20 (xl 19) 18 false,og 21 (xf 2 3) 18 false,og 22 (xl 21) 18 false,og 23 (.bin .neq .num (.t 20) (.t 22)) 18 false,qo 24 18 23,qm 25 24,og 26 (xf 3 2) 25 false,og 27 (xl 26) 25 false,og 28 (xf 3 3) 25 false,og 29 (xl 28) 25 false,og 30 (xc 47 [.t 27,.t 29]) 25 false,og 31 (.un .not (.t 30)) 25 false,qo 32 25 31,qm 33 32,og 34 (xf 4 2) 33 false,og 35 (xl 34) 33 false,og 36 (xe 35) 33 false,og 37 (xf 4 3) 33 false,og 38 (xl 37) 33 false,og 39 (xe 38) 33 false,og 40 (.bin .neq .num (.t 36) (.t 39)) 33 false,qo 41 33 40] (.cond (.t 41) (sr [qb 4 false] .ret) .skip)) Mr)
def b11:=sr [oq 2 (.box 5 (.t 0)),oq 3 (.box 5 (.t 1)),qb 4 false] vT
def r11:List bF:=[(.tmp 4)]
theorem cf11:EI.cf 11=some ⟨61,r11,b11⟩:=by kernel_rfl
def EY:=sr [qf 57 0 1,ql 58 57,oq 59 (.bin .gtr .num (.t 58) (xn 0)),qm 60 59,og 61 (xf 1 4) 60 true,og 62 (xl 61) 60 true,og 63 (xf 0 1) 60 true,og 64 (xl 63) 60 true,og 65 (.bin .geq .num (.t 62) (.t 64)) 60 true,qd 66 60 65] (.cond (.t 66) (sr [qb 2 false] .ret) .skip)
def EX:aw:=(.seq (.seq (.draw [dq (qm 43 3) 0 0 true,dq (oq 44 (.bin .gtr .num (.t 43) (xn 0))) 0 0 true,dq (qm 45 44) 0 0 true,dq (og 46 (xf 1 1) 45 true) 0 0 false,dq (og 47 (xl 46) 45 true) 0 0 false,dq (og 48 (xm 3) 45 true) 0 0 false,dq (og 49 (.bin .sub .num (.t 48) (xn 1)) 45 true) 0 0 false,dq (og 50 (xx 2 47 49) 45 true) 0 0 false,dq (og 51 (xf 0 50) 45 true) 0 0 false,dq (og 52 (xl 51) 45 true) 0 0 false,dq (og 53 (xf 0 4) 45 true) 0 0 true,dq (og 54 (xl 53) 45 true) 0 0 true,dq (og 55 (.bin .geq .num (.t 52) (.t 54)) 45 true) 0 0 true,dq (qd 56 45 55) 0 0 true]) (.cond (.t 56) (sr [qb 2 false] .ret) .skip)) EY)
def EW:aw:=(.seq (sr [qf 25 0 4,ql 26 25,oq 27 (.bin .lss .num (.t 26) (xn (-65536))),qm 28 27,og 29 (xf 0 4) 28 false,og 30 (xl 29) 28 false,og 31 (.bin .geq .num (.t 30) (xn 8)) 28 false,qo 32 28 31,qm 33 32,og 34 (xf 1 4) 33 false,og 35 (xl 34) 33 false,og 36 (.bin .lss .num (.t 35) (xn 0)) 33 false,qo 37 33 36,qm 38 37,og 39 (xf 1 4) 38 false,og 40 (xl 39) 38 false,og 41 (.bin .gtr .num (.t 40) (xn 100)) 38 false,qo 42 38 41] (.cond (.t 42) (sr [qb 2 false] .ret) .skip)) EX)
def EV:aw:=(.seq (.block 1 (sr [qf 20 1 1,ql 21 20,qm 22 3,qx 23 2 21 22,qL 24 2 23,oq 4 (.new [(.int .i64 0),(.int .i64 0)]),qs 2 4 24] EW)) (.region [qm 18 3,qa 19 18 1,qm 3 19]))
def VW:aw:=(.seq (sr [qm 13 3,qf 14 1 1,ql 15 14,qe 16 15,qlt 17 13 16] (.cond (.t 17) .skip (.exit 0))) EV)
def Vu:=sr [qb 2 true] .ret
def Vt:aw:=(.seq (sr [qi 3 0] (.block 0 (.loop VW))) Vu)
def Vs:aw:=(.seq (sr [qf 5 0 1,ql 6 5,oq 7 (.bin .lss .num (.t 6) (xn 0)),qm 8 7,og 9 (xf 0 1) 8 false,og 10 (xl 9) 8 false,og 11 (.bin .gtr .num (.t 10) (xn 100)) 8 false,qo 12 8 11] (.cond (.t 12) (sr [qb 2 false] .ret) .skip)) Vt)
def b21:=sr [oq 1 (.box 2 (.t 0)),qb 2 false] Vs
def r21:List bF:=[(.tmp 2)]
theorem cf21:EI.cf 21=some ⟨67,r21,b21⟩:=by kernel_rfl
def aa3:aw:=(.seq (sr [qm 14 5,qm 15 0,oq 16 (.bin .gtr .num (.t 14) (.t 15))] (.cond (.t 16) (sr [qm 17 5,qm 4 17] .ret) .skip)) (.region [qm 18 5,qm 19 0,qm 20 5,oq 21 (.bin .sub .num (.t 19) (.t 20)),qf 22 4 7,ql 23 22,qc 24 24 [.t 21,.t 23],oq 25 (.bin .add .num (xn 1) (.t 24)),oq 26 (.bin .add .num (.t 18) (.t 25)),qm 5 26]))
def aa2:aw:=(.seq (.block 1 (sr [qx 12 5 8 10,qL 13 5 12,qz 7,qs 5 7 13] aa3)) (.region [qa 27 10 1,qm 10 27]))
def aa1:aw:=(.seq (.cond (.t 11) .skip (.exit 0)) aa2)
def ab2:=sr [qlt 11 10 9] aa1
def aa0:=sr [qm 28 5,qm 4 28] .ret
def aaZ:aw:=(.seq (sr [qm 8 1,qe 9 8,qi 10 0] (.block 0 (.loop ab2))) aa0)
def aaY:=sr [qi 5 0] aaZ
def b24:=sr [qi 4 0] aaY
def r24:List bF:=[(.tmp 4)]
theorem cf24:EI.cf 24=some ⟨29,r24,b24⟩:=by kernel_rfl
def Mm:=sr [qm 5 0,qm 6 1,qc 7 68 [.t 5,.t 6],oq 8 (.bin .geq .num (.t 7) (xn 0)),qm 4 8] .ret
def b25:=sr [qb 4 false] Mm
def r25:List bF:=[(.tmp 4)]
theorem aeS:EI.cf 25=some ⟨9,r25,b25⟩:=by kernel_rfl
def aaX:=sr [qf 3 1 1,ql 4 3,qe 5 4,oq 6 (.bin .gtr .num (.t 5) (xn 20)),qm 2 6] .ret
def b26:=sr [oq 1 (.box 2 (.t 0)),qb 2 false] aaX
def r26:List bF:=[(.tmp 2)]
theorem cf26:EI.cf 26=some ⟨7,r26,b26⟩:=by kernel_rfl
def aaW:=sr [qm 48 14,oq 49 (.bin .neq .num (.t 48) (xn 0))] (.cond (.t 49) (sr [qm 50 14,qm 12 50] .ret) .skip)
def aaV:aw:=(.seq (.block 1 (sr [qf 40 3 6,ql 41 40,qm 42 13,qx 43 2 41 42,qL 44 2 43,qm 45 3,qm 46 5,qc 47 71 [.t 44,.t 45,.t 46],qm 14 47] aaW)) (.region [qm 38 13,qa 39 38 1,qm 13 39]))
def ab1:aw:=(.seq (sr [qm 33 13,qf 34 3 6,ql 35 34,qe 36 35,qlt 37 33 36] (.cond (.t 37) .skip (.exit 0))) aaV)
def aaU:=sr [qm 104 16,oq 105 (.bin .neq .num (.t 104) (xn 0))] (.cond (.t 105) (sr [qm 106 16,qm 12 106] .ret) .skip)
def aaT:aw:=(.seq (.block 3 (.seq (.draw [dq (qf 88 4 6) 0 1 false,dq (ql 89 88) 0 1 false,dq (qm 90 15) 0 1 false,dq (qx 91 5 89 90) 0 1 false,dq (qL 92 5 91) 0 1 false,dq (qm 93 1) 0 1 false,dq (qf 94 0 6) 0 0 false,dq (ql 95 94) 0 0 false,dq (qm 96 15) 0 0 false,dq (qc 97 72 [.t 95,.t 96]) 0 1 false,dq (oq 98 (.bin .add .num (.t 93) (.t 97))) 1 1 false,dq (qm 99 2) 0 1 false,dq (qm 100 3) 0 1 false,dq (qm 101 4) 0 1 false,dq (qm 102 5) 0 1 true,dq (qc 103 27 [.t 92,.t 98,.t 99,.t 100,.t 101,.t 102]) 1 2 true,dq (qm 16 103) 2 2 true]) aaU)) (.region [qm 86 15,qa 87 86 1,qm 15 87]))
def ab0:aw:=(.seq (sr [qm 81 15,qf 82 4 6,ql 83 82,qe 84 83,qlt 85 81 84] (.cond (.t 85) .skip (.exit 2))) aaT)
def aaS:=sr [qi 12 0] .ret
def Vn:aw:=(.seq (sr [qi 15 0] (.block 2 (.loop ab0))) aaS)
def Vm:aw:=(.seq (sr [qf 67 0 6,ql 68 67,oq 69 (.bin .eql .num (.t 68) (xn 12)),qm 70 69,og 71 (xf 1 6) 70 true,og 72 (xl 71) 70 true,og 73 (.bin .lss .num (.t 72) (xn 0)) 70 true,og 74 (xm 73) 70 true,og 75 (xf 1 6) 74 false,og 76 (xl 75) 74 false,og 77 (xm 4) 74 false,og 78 (.bin .geq .num (.t 76) (.t 77)) 74 false,og 79 (.pick (.t 74) (.c (.bool true)) (.t 78)) 70 true,qd 80 70 79] (.cond (.t 80) (sr [qi 12 23] .ret) .skip)) Vn)
def Vl:aw:=(.seq (sr [qf 51 0 6,ql 52 51,oq 53 (.bin .eql .num (.t 52) (xn 0)),qm 54 53,og 55 (xf 1 6) 54 true,og 56 (xl 55) 54 true,og 57 (.bin .lss .num (.t 56) (xn 0)) 54 true,og 58 (xm 57) 54 true,og 59 (xf 1 6) 58 false,og 60 (xl 59) 58 false,og 61 (xm 1) 58 false,og 62 (.bin .sub .num (.t 60) (.t 61)) 58 false,og 63 (xm 2) 58 false,og 64 (.bin .geq .num (.t 62) (.t 63)) 58 false,og 65 (.pick (.t 58) (.c (.bool true)) (.t 64)) 54 true,qd 66 54 65] (.cond (.t 66) (sr [qi 12 24] .ret) .skip)) Vm)
def PG:aw:=(.seq (sr [qi 13 0] (.block 0 (.loop ab1))) Vl)
def FI:aw:=(.seq (sr [qf 29 3 6,ql 30 29,qe 31 30,oq 32 (.bin .gtr .num (.t 31) (xn 8))] (.cond (.t 32) (sr [qi 12 6] .ret) .skip)) PG)
def PF:aw:=(.seq (sr [qf 20 0 6,ql 21 20,oq 22 (.bin .eql .num (.t 21) (xn 3)),qm 23 22,og 24 (xf 2 6) 23 true,og 25 (xl 24) 23 true,og 26 (xc 70 [.t 25]) 23 true,og 27 (.un .not (.t 26)) 23 true,qd 28 23 27] (.cond (.t 28) (sr [qi 12 29] .ret) .skip)) FI)
def FH:aw:=(.seq (sr [qL 17 5 6,qc 18 69 [.t 17],oq 19 (.un .not (.t 18))] (.cond (.t 19) (sr [qi 12 3] .ret) .skip)) PF)
def b27:=sr [oq 6 (.box 5 (.t 0)),qi 12 0] FH
def r27:List bF:=[(.tmp 12)]
theorem cf27:EI.cf 27=some ⟨107,r27,b27⟩:=by kernel_rfl
def aaR:aw:=(.seq (.block 1 (.region [qm 12 3,qf 13 4 1,ql 14 13,qm 15 4,qx 16 5 14 15,qL 17 5 16,qc 18 28 [.t 17],oq 19 (.bin .add .num (.t 12) (.t 18)),qm 3 19])) (.region [qm 10 4,qa 11 10 1,qm 4 11]))
def abZ:aw:=(.seq (sr [qm 5 4,qf 6 4 1,ql 7 6,qe 8 7,qlt 9 5 8] (.cond (.t 9) .skip (.exit 0))) aaR)
def aaQ:=sr [qm 20 3,qm 2 20] .ret
def aaP:aw:=(.seq (sr [qi 4 0] (.block 0 (.loop abZ))) aaQ)
def aaO:=sr [qi 3 1] aaP
def b28:=sr [oq 1 (.box 5 (.t 0)),qi 2 0] aaO
def r28:List bF:=[(.tmp 2)]
theorem cf28:EI.cf 28=some ⟨21,r28,b28⟩:=by kernel_rfl
def Vk:aw:=(.seq (.block 1 (.region [qm 12 3,qf 13 4 1,ql 14 13,qm 15 4,qx 16 5 14 15,qL 17 5 16,qc 18 29 [.t 17],oq 19 (.builtin .max [.t 12,.t 18]),qm 3 19])) (.region [qm 10 4,qa 11 10 1,qm 4 11]))
def VV:aw:=(.seq (sr [qm 5 4,qf 6 4 1,ql 7 6,qe 8 7,qlt 9 5 8] (.cond (.t 9) .skip (.exit 0))) Vk)
def Vj:=sr [qm 20 3,qa 21 20 1,qm 2 21] .ret
def Vi:aw:=(.seq (sr [qi 4 0] (.block 0 (.loop VV))) Vj)
def Vh:=sr [qi 3 0] Vi
def b29:=sr [oq 1 (.box 5 (.t 0)),qi 2 0] Vh
def r29:List bF:=[(.tmp 2)]
theorem cf29:EI.cf 29=some ⟨22,r29,b29⟩:=by kernel_rfl
def b41_0:=sr [qm 5 11] (.region [qz 6,qs 5 6 12])
def s41_1:=sr [qf 17 0 6,ql 18 17,oq 19 (.bin .eql .num (.t 18) (xn 0)),qm 20 19,og 21 (xf 1 6) 20 true,og 22 (xl 21) 20 true,og 23 (xm 5) 20 true,og 24 (.bin .geq .num (.t 22) (.t 23)) 20 true,qd 25 20 24,qm 26 25,og 27 (xl 3) 26 true,og 28 (xm 7) 26 true,og 29 (.lookup 1 (.bool false) (.t 27) (.t 28) false) 26 true,og 30 (.un .not (.t 29)) 26 true,qd 31 26 30] (.cond (.t 31) (sr [ql 32 3,qm 33 7,⟨none,(.mapUp 1 (.t 32) (.t 33) (.c (.bool true))),none⟩] (.region [ql 34 4,qm 35 7,oq 36 (.lit true false 1 [(.int .i64 0)] 1 [(0,(.t 35))]),oq 37 (.builtin (.append 1 false [(.int .i64 0)] 8) [.t 34,.t 36]),qs 1 4 37])) .skip)
def b41_2:aw:=(.block 1 (sr [qf 13 1 6,ql 14 13,qm 15 5,oq 16 (.bin .sub .num (.t 14) (.t 15)),qm 7 16] s41_1))
def s41_3:=sr [ql 40 4,qm 2 40] .ret
def s41_4:=sr [ql 38 4,qc 39 82 [.t 38]] s41_3
def s41_5:aw:=(.seq (sr [qL 9 5 1,qc 10 81 [.t 9]] (.block 0 (.rangeFunc (.t 10) [11,12] b41_0 b41_2))) s41_4)
def s41_6:=sr [oq 4 (.new [.nl])] s41_5
def s41_7:=sr [oq 8 .mkMap,oq 3 (.new [.nilm]),qs 1 3 8] s41_6
def b41:=sr [oq 1 (.box 5 (.t 0)),oq 2 (.mv (.c .nl))] s41_7
def aaN:aw:=(.seq (.block 1 (.seq (.draw [dq (qm 17 0) 0 0 false,dq (qm 18 5) 0 0 false,dq (qx 19 2 17 18) 0 0 false,dq (qL 20 2 19) 0 0 false,dq (qm 21 1) 0 0 false,dq (qm 22 5) 0 0 true,dq (qx 23 2 21 22) 0 0 true,dq (qL 24 2 23) 0 0 true,dq (qc 25 58 [.t 20,.t 24]) 0 1 true,dq (oq 26 (.un .not (.t 25))) 1 1 true]) (.cond (.t 26) (sr [qb 4 false] .ret) .skip))) (.region [qm 15 5,qa 16 15 1,qm 5 16]))
def VU:aw:=(.seq (sr [qm 11 5,qm 12 0,qe 13 12,qlt 14 11 13] (.cond (.t 14) .skip (.exit 0))) aaN)
def Vg:=sr [qb 4 true] .ret
def Vf:aw:=(.seq (sr [qi 5 0] (.block 0 (.loop VU))) Vg)
def Ml:aw:=(.seq (sr [qm 6 0,qe 7 6,qm 8 1,qe 9 8,oq 10 (.bin .neq .num (.t 7) (.t 9))] (.cond (.t 10) (sr [qb 4 false] .ret) .skip)) Vf)
def b47:=sr [qb 4 false] Ml
def r47:List bF:=[(.tmp 4)]
theorem cf47:EI.cf 47=some ⟨27,r47,b47⟩:=by kernel_rfl
def aaB:aw:=(.seq (.block 1 (.seq (.draw [dq (qf 27 1 2) 0 0 false,dq (ql 28 27) 0 0 false,dq (qm 29 5) 0 0 false,dq (qx 30 2 28 29) 0 0 false,dq (qL 31 2 30) 0 0 false,dq (qf 32 1 3) 0 0 false,dq (ql 33 32) 0 0 false,dq (qm 34 5) 0 0 true,dq (qx 35 2 33 34) 0 0 true,dq (qL 36 2 35) 0 0 true,dq (oq 37 (.bin .neq (.struct [(0,1),(1,1)]) (.t 31) (.t 36))) 0 0 true]) (.cond (.t 37) (sr [qb 4 false] .ret) .skip))) (.region [qm 25 5,qa 26 25 1,qm 5 26]))
def abU:aw:=(.seq (sr [qm 20 5,qf 21 1 2,ql 22 21,qe 23 22,qlt 24 20 23] (.cond (.t 24) .skip (.exit 0))) aaB)
def aaA:=sr [qb 4 true] .ret
def aaz:aw:=(.seq (sr [qi 5 0] (.block 0 (.loop abU))) aaA)
def aay:aw:=(.seq (sr [qf 6 0 2,ql 7 6,qf 8 0 3,ql 9 8,oq 10 (.bin .neq .num (.t 7) (.t 9)),qm 11 10,og 12 (xf 1 2) 11 false,og 13 (xl 12) 11 false,og 14 (xe 13) 11 false,og 15 (xf 1 3) 11 false,og 16 (xl 15) 11 false,og 17 (xe 16) 11 false,og 18 (.bin .neq .num (.t 14) (.t 17)) 11 false,qo 19 11 18] (.cond (.t 19) (sr [qb 4 false] .ret) .skip)) aaz)
def b58:=sr [oq 2 (.box 2 (.t 0)),oq 3 (.box 2 (.t 1)),qb 4 false] aay
def r58:List bF:=[(.tmp 4)]
theorem cf58:EI.cf 58=some ⟨38,r58,b58⟩:=by kernel_rfl
def ER:=sr [qm 11 1,qm 12 0,qm 13 5,qx 14 2 12 13,qL 15 2 14,oq 16 (.call (.t 11) [.t 15])] (.cond (.t 16) (sr [qm 17 5,qm 4 17] .ret) .skip)
def EP:aw:=(.seq (.block 1 (sr [qm 10 8,qm 5 10] ER)) (.region [qa 18 8 1,qm 8 18]))
def Mi:aw:=(.seq (.cond (.t 9) .skip (.exit 0)) EP)
def Mz:=sr [qlt 9 8 7] Mi
def Mh:=sr [qi 4 (-1)] .ret
def Mg:aw:=(.seq (sr [qm 6 0,qe 7 6,qi 8 0] (.block 0 (.loop Mz))) Mh)
def b68:=sr [qi 4 0] Mg
def r68:List bF:=[(.tmp 4)]
theorem aeR:EI.cf 68=some ⟨19,r68,b68⟩:=by kernel_rfl
def UQ:=sr [qf 48 3 1,ql 49 48,qe 50 49,oq 51 (.bin .eql .num (.t 50) (xn 0)),qm 52 51,og 53 (xf 0 1) 52 false,og 54 (xl 53) 52 false,og 55 (.bin .eql .num (.t 54) (xn 3)) 52 false,qo 56 52 55,qm 2 56] .ret
def UP:aw:=(.seq (sr [qf 41 0 1,ql 42 41,oq 43 (.bin .eql .num (.t 42) (xn 2))] (.cond (.t 43) (sr [qf 44 3 1,ql 45 44,qe 46 45,oq 47 (.bin .eql .num (.t 46) (xn 1)),qm 2 47] .ret) .skip)) UQ)
def UO:aw:=(.seq (sr [qf 33 2 1,ql 34 33,oq 35 (.bin .neq .num (.t 34) (.c (.str (bs [])))),qm 36 35,og 37 (xf 0 1) 36 true,og 38 (xl 37) 36 true,og 39 (.bin .neq .num (.t 38) (xn 3)) 36 true,qd 40 36 39] (.cond (.t 40) (sr [qb 2 false] .ret) .skip)) UP)
def UN:aw:=(.seq (sr [qf 20 1 1,ql 21 20,oq 22 (.bin .neq .num (.t 21) (xn 0)),qm 23 22,og 24 (xf 0 1) 23 true,og 25 (xl 24) 23 true,og 26 (.bin .neq .num (.t 25) (xn 0)) 23 true,qd 27 23 26,qm 28 27,og 29 (xf 0 1) 28 true,og 30 (xl 29) 28 true,og 31 (.bin .neq .num (.t 30) (xn 12)) 28 true,qd 32 28 31] (.cond (.t 32) (sr [qb 2 false] .ret) .skip)) UO)
def aaf:aw:=(.seq (.seq (.draw [dq (qf 3 0 1) 0 0 true,dq (ql 4 3) 0 0 true,dq (oq 5 (.bin .lss .num (.t 4) (xn 0))) 0 0 true,dq (qm 6 5) 0 0 true,dq (og 7 (xf 0 1) 6 false) 0 0 true,dq (og 8 (xl 7) 6 false) 0 0 true,dq (og 9 (.bin .geq .num (.t 8) (xn 13)) 6 false) 0 0 true,dq (qo 10 6 9) 0 0 true,dq (qm 11 10) 0 0 true,dq (og 12 (xf 4 1) 11 false) 0 1 false,dq (og 13 (xl 12) 11 false) 0 1 false,dq (og 14 (xe 13) 11 false) 0 1 false,dq (og 15 (xf 0 1) 11 false) 0 0 true,dq (og 16 (xl 15) 11 false) 0 0 true,dq (og 17 (xc 116 [.t 16]) 11 false) 0 1 true,dq (og 18 (.bin .neq .num (.t 14) (.t 17)) 11 false) 1 1 true,dq (qo 19 11 18) 1 1 true]) (.cond (.t 19) (sr [qb 2 false] .ret) .skip)) UN)
def b69:=sr [oq 1 (.box 5 (.t 0)),qb 2 false] aaf
def r69:List bF:=[(.tmp 2)]
theorem cf69:EI.cf 69=some ⟨57,r69,b69⟩:=by kernel_rfl
def aae:=sr [qm 28 5,qc 29 117 [.t 28],oq 30 (.un .not (.t 29)),qm 31 30,og 32 (xm 5) 31 true,og 33 (.bin .neq .num (.t 32) (.c (.int .u8 39))) 31 true,qd 34 31 33,qm 35 34,og 36 (xm 5) 35 true,og 37 (.bin .lss .num (.t 36) (.c (.int .u8 48))) 35 true,og 38 (xm 37) 35 true,og 39 (xm 5) 38 false,og 40 (.bin .gtr .num (.t 39) (.c (.int .u8 57))) 38 false,og 41 (.pick (.t 38) (.c (.bool true)) (.t 40)) 35 true,qd 42 35 41] (.cond (.t 42) (sr [qb 2 false] .ret) .skip)
def aad:aw:=(.seq (sr [qm 26 5,oq 27 (.bin .eql .num (.t 26) (.c (.int .u8 46)))] (.cond (.t 27) (sr [qb 3 true] (.exit 1)) .skip)) aae)
def aac:aw:=(.seq (sr [qm 22 3] (.cond (.t 22) (.seq (sr [qm 23 5,qc 24 117 [.t 23],oq 25 (.un .not (.t 24))] (.cond (.t 25) (sr [qb 2 false] .ret) .skip)) (sr [qb 3 false] (.exit 1))) .skip)) aad)
def aab:aw:=(.seq (.block 1 (sr [qm 19 0,qm 20 4,oq 21 (.strIdx (.t 19) (.t 20)),qm 5 21] aac)) (.region [qm 17 4,qa 18 17 1,qm 4 18]))
def abP:aw:=(.seq (sr [qm 13 4,qm 14 0,oq 15 (.builtin (.len 0) [.t 14]),qlt 16 13 15] (.cond (.t 16) .skip (.exit 0))) aab)
def aaa:=sr [qm 43 3,oq 44 (.un .not (.t 43)),qm 2 44] .ret
def ZZ:aw:=(.seq (sr [qi 4 0] (.block 0 (.loop abP))) aaa)
def ZY:=sr [qb 3 true] ZZ
def ZX:aw:=(.seq (sr [qm 6 0,oq 7 (.bin .eql .num (.t 6) (.c (.str (bs [])))),qm 8 7,og 9 (xm 0) 8 false,og 10 (.builtin (.len 0) [.t 9]) 8 false,og 11 (.bin .gtr .num (.t 10) (xn 64)) 8 false,qo 12 8 11] (.cond (.t 12) (sr [qb 2 false] .ret) .skip)) ZY)
def b70:=sr [qb 2 false] ZX
def r70:List bF:=[(.tmp 2)]
theorem cf70:EI.cf 70=some ⟨45,r70,b70⟩:=by kernel_rfl
def ZW:aw:=(.seq (.block 1 (sr [qf 19 1 3,ql 20 19,qm 21 7,qx 22 2 20 21,qf 23 0 22,ql 24 23,oq 25 (.bin .geq .num (.t 24) (xn 0)),qm 26 25,og 27 (xf 1 3) 26 true,og 28 (xl 27) 26 true,og 29 (xm 7) 26 true,og 30 (xx 2 28 29) 26 true,og 31 (xf 0 30) 26 true,og 32 (xl 31) 26 true,og 33 (xm 1) 26 true,og 34 (.bin .geq .num (.t 32) (.t 33)) 26 true,qd 35 26 34] (.cond (.t 35) (sr [qi 6 15] .ret) .skip))) (.region [qm 17 7,qa 18 17 1,qm 7 18]))
def abO:aw:=(.seq (sr [qm 12 7,qf 13 1 3,ql 14 13,qe 15 14,qlt 16 12 15] (.cond (.t 16) .skip (.exit 0))) ZW)
def ZV:aw:=(.seq (.block 3 (sr [qf 43 1 3,ql 44 43,qm 45 8,qx 46 2 44 45,qf 47 0 46,ql 48 47,oq 49 (.bin .lss .num (.t 48) (xn 0)),qm 50 49,og 51 (xf 1 3) 50 true,og 52 (xl 51) 50 true,og 53 (xm 8) 50 true,og 54 (xx 2 52 53) 50 true,og 55 (xf 0 54) 50 true,og 56 (xl 55) 50 true,og 57 (.bin .sub .num (xn (-1)) (.t 56)) 50 true,og 58 (xm 2) 50 true,og 59 (.bin .geq .num (.t 57) (.t 58)) 50 true,qd 60 50 59] (.cond (.t 60) (sr [qi 6 23] .ret) .skip))) (.region [qm 41 8,qa 42 41 1,qm 8 42]))
def abN:aw:=(.seq (sr [qm 36 8,qf 37 1 3,ql 38 37,qe 39 38,qlt 40 36 39] (.cond (.t 40) .skip (.exit 2))) ZV)
def ZU:=sr [qi 6 0] .ret
def ZT:aw:=(.seq (sr [qi 8 0] (.block 2 (.loop abN))) ZU)
def ZS:aw:=(.seq (sr [qi 7 0] (.block 0 (.loop abO))) ZT)
def UM:aw:=(.seq (sr [qL 9 2 3,qc 10 21 [.t 9],oq 11 (.un .not (.t 10))] (.cond (.t 11) (sr [qi 6 3] .ret) .skip)) ZS)
def b71:=sr [oq 3 (.box 2 (.t 0)),qi 6 0] UM
def r71:List bF:=[(.tmp 6)]
theorem cf71:EI.cf 71=some ⟨61,r71,b71⟩:=by kernel_rfl
def ZR:=sr [qi 4 0] .ret
def ZQ:aw:=(.seq (sr [qm 5 1,oq 6 (.bin .eql .num (.t 5) (xn 1)),qm 7 6,og 8 (xm 0) 7 true,og 9 (.bin .eql .num (.t 8) (xn 5)) 7 true,og 10 (xm 9) 7 true,og 11 (xm 0) 10 false,og 12 (.bin .eql .num (.t 11) (xn 6)) 10 false,og 13 (.pick (.t 10) (.c (.bool true)) (.t 12)) 7 true,og 14 (xm 13) 7 true,og 15 (xm 0) 14 false,og 16 (.bin .eql .num (.t 15) (xn 7)) 14 false,og 17 (.pick (.t 14) (.c (.bool true)) (.t 16)) 7 true,qd 18 7 17,qm 19 18,og 20 (xm 1) 19 false,og 21 (.bin .eql .num (.t 20) (xn 2)) 19 false,og 22 (xm 21) 19 false,og 23 (xm 0) 22 true,og 24 (.bin .eql .num (.t 23) (xn 11)) 22 true,og 25 (.pick (.t 22) (.t 24) (.c (.bool false))) 19 false,qo 26 19 25] (.cond (.t 26) (sr [qi 4 1] .ret) .skip)) ZR)
def b72:=sr [qi 4 0] ZQ
def r72:List bF:=[(.tmp 4)]
theorem cf72:EI.cf 72=some ⟨27,r72,b72⟩:=by kernel_rfl
def ZM:=sr [oq 3 (.mkFn 122 [] [.t 1]),qm 2 3] .ret
def b81:=sr [oq 1 (.box 5 (.t 0)),oq 2 (.mv (.c .nilf))] ZM
def r81:List bF:=[(.tmp 2)]
theorem cf81:EI.cf 81=some ⟨4,r81,b81⟩:=by kernel_rfl
def ZL:=sr [qm 13 3,qm 2 13] .ret
def ZK:aw:=(.seq (sr [qm 10 4,oq 11 (.un .not (.t 10))] (.cond (.t 11) (.region [qm 12 0,⟨none,(.panic (.t 12)),none⟩]) .skip)) ZL)
def ZJ:=sr [qm 6 0,oq 7 (.assert 198 (.int .i64 0) (.t 6) true),qm 5 7,oq 8 (.extract (.t 5) 0),oq 9 (.extract (.t 5) 1),qm 3 8,qm 4 9] ZK
def b84:=sr [qi 2 0] ZJ
def r84:List bF:=[(.tmp 2)]
theorem cf84:EI.cf 84=some ⟨14,r84,b84⟩:=by kernel_rfl
def ZI:=sr [oq 3 (.mkFn 127 [] [.t 1]),oq 4 (.build [.nilf] [(0,1,(.t 3))]),qs 1 2 4] .ret
def b85:=sr [oq 1 (.box 1 (.t 0)),oq 2 (.new [.nilf])] ZI
def r85:List bF:=[(.cell 2 true 1)]
theorem cf85:EI.cf 85=some ⟨5,r85,b85⟩:=by kernel_rfl
def UL:aw:=(.seq (.block 1 (sr [qx 18 2 14 16,qL 19 2 18,oq 5 (.new [(.int .i64 0),.nl]),qs 2 5 19] (.draw [dq (qf 20 3 3) 0 1 false,dq (ql 21 20) 0 1 false,dq (qf 22 0 5) 0 1 false,dq (ql 23 22) 0 1 false,dq (qf 24 1 5) 0 0 true,dq (ql 25 24) 0 0 true,dq (oq 26 (.builtin (.append 2 true [(.int .i64 0),(.int .i64 0)] 16) [(.c .nl),.t 25])) 0 1 true,dq (oq 27 (.build [(.int .i64 0),.nl] [(0,1,(.t 23)),(1,1,(.t 26))])) 1 1 true,dq (oq 28 (.lit true true 2 [(.int .i64 0),.nl] 1 [(0,(.t 27))])) 1 1 true,dq (oq 29 (.builtin (.append 2 true [(.int .i64 0),.nl] 32) [.t 21,.t 28])) 1 2 true,dq (qf 30 3 3) 2 2 true,dq (qs 1 30 29) 2 3 true]))) (.region [qa 31 16 1,qm 16 31]))
def UK:aw:=(.seq (.cond (.t 17) .skip (.exit 0)) UL)
def VT:=sr [qlt 17 16 15] UK
def UJ:=sr [qL 32 5 3,qs 5 2 32] .ret
def UI:aw:=(.seq (sr [qf 13 3 1,ql 14 13,qe 15 14,qi 16 0] (.block 0 (.loop VT))) UJ)
def UH:=sr [qf 6 0 1,ql 7 6,qf 8 1 1,ql 9 8,qf 10 2 1,ql 11 10,oq 12 (.build zT [(0,1,(.t 7)),(1,1,(.t 9)),(2,1,(.t 11))]),qz 3,qs 5 3 12] UI
def b87:=sr [oq 1 (.box 5 (.t 0)),qz 2] UH
def r87:List bF:=[(.cell 2 true 5)]
theorem cf87:EI.cf 87=some ⟨33,r87,b87⟩:=by kernel_rfl
def b88:aw:=(.region [qm 2 0,oq 3 (.mkIface 198 (.t 2)),⟨none,(.panic (.t 3)),none⟩])
def r88:List bF:=[]
theorem cf88:EI.cf 88=some ⟨4,r88,b88⟩:=by kernel_rfl
def ZH:=sr [qm 6 0,oq 7 (.build zT [(0,1,(xn 0)),(1,1,(.t 6))]),qs 5 2 7] .ret
def ZG:aw:=(.seq (sr [qm 3 0,oq 4 (.bin .gtr .num (.t 3) (xn 65535))] (.cond (.t 4) (.region [qc 5 88 [(xn 24)]]) .skip)) ZH)
def b89:=sr [qz 2] ZG
def r89:List bF:=[(.cell 2 true 5)]
theorem cf89:EI.cf 89=some ⟨8,r89,b89⟩:=by kernel_rfl
def Mf:aw:=(.seq (.block 1 (sr [qm 36 34,qx 37 5 32 34,qL 38 5 37,qz 10,qm 9 36,qs 5 10 38] (.draw [dq (qf 39 4 7) 0 2 false,dq (ql 40 39) 0 2 false,dq (qm 41 9) 0 2 false,dq (qL 42 1 3) 0 1 false,dq (qL 43 5 10) 0 1 false,dq (qm 44 2) 0 1 false,dq (qf 45 0 4) 0 0 false,dq (ql 46 45) 0 0 false,dq (qm 47 9) 0 0 true,dq (qc 48 128 [.t 46,.t 47]) 0 1 true,dq (oq 49 (.bin .add .num (.t 44) (.t 48))) 1 1 true,dq (qc 50 90 [.t 42,.t 43,.t 49]) 1 2 true,dq (qx 51 5 40 41) 2 2 true,dq (qs 5 51 50) 2 3 true]))) (.region [qa 52 34 1,qm 34 52]))
def ZF:aw:=(.seq (.cond (.t 35) .skip (.exit 0)) Mf)
def abL:=sr [qlt 35 34 33] ZF
def UG:=sr [qL 53 5 7,qs 5 6 53] .ret
def ZE:aw:=(.seq (sr [qf 22 4 4,ql 23 22,qe 24 23,oq 25 (.bin .gtr .num (.t 24) (xn 0))] (.cond (.t 25) (sr [qf 26 4 4,ql 27 26,qe 28 27,oq 29 (.mkSlice true 5 80 zT (.t 28) (.t 28)),qf 30 4 7,qs 1 30 29] (sr [qf 31 4 4,ql 32 31,qe 33 32,qi 34 0] (.block 0 (.loop abL)))) .skip)) UG)
def ZD:=sr [qf 21 4 7,⟨none,(.store 1 (.t 21) (.c .nl)),none⟩] ZE
def UF:aw:=(.seq (sr [qm 19 8] (.cond (.t 19) (sr [qL 20 5 7,qs 5 6 20] .ret) .skip)) ZD)
def EO:=sr [qf 12 0 3,ql 13 12,qL 14 5 4,qm 15 2,oq 16 (.call (.t 13) [.t 14,.t 15]),qm 11 16,oq 17 (.extract (.t 11) 0),oq 18 (.extract (.t 11) 1),qz 7,qs 5 7 17,qm 8 18] UF
def b90:=sr [oq 3 (.box 1 (.t 0)),oq 4 (.box 5 (.t 1)),qz 6] EO
def r90:List bF:=[(.cell 6 true 5)]
theorem cf90:EI.cf 90=some ⟨54,r90,b90⟩:=by kernel_rfl
def Sy:=sr [qi 2 0] .ret
def Sx:aw:=(.seq (sr [qm 3 0] (.block 0 (.seq (sr [oq 5 (.bin .eql .num (.t 3) (xn 4)),qm 4 5] (.cond (.t 4) .skip (sr [oq 6 (.bin .eql .num (.t 3) (xn 5)),qm 4 6] (.cond (.t 4) .skip (sr [oq 7 (.bin .eql .num (.t 3) (xn 6)),qm 4 7] (.cond (.t 4) .skip (.region [oq 8 (.bin .eql .num (.t 3) (xn 7)),qm 4 8]))))))) (.cond (.t 4) (sr [qi 2 2] .ret) (.seq (sr [oq 10 (.bin .eql .num (.t 3) (xn 8)),qm 9 10] (.cond (.t 9) .skip (.region [oq 11 (.bin .eql .num (.t 3) (xn 11)),qm 9 11]))) (.cond (.t 9) (sr [qi 2 3] .ret) (.seq (sr [oq 13 (.bin .eql .num (.t 3) (xn 9)),qm 12 13] (.cond (.t 12) .skip (.region [oq 14 (.bin .eql .num (.t 3) (xn 10)),qm 12 14]))) (.cond (.t 12) (sr [qi 2 1] .ret) .skip)))))))) Sy)
def ae5:=sr [qi 2 0] Sx
def aeG:List bF:=[(.tmp 2)]
theorem cf116:EI.cf 116=some ⟨15,aeG,ae5⟩:=by kernel_rfl
def Sw:=sr [qm 3 0,oq 4 (.bin .geq .num (.t 3) (.c (.int .u8 97))),qm 5 4,og 6 (xm 0) 5 true,og 7 (.bin .leq .num (.t 6) (.c (.int .u8 122))) 5 true,qd 8 5 7,qm 9 8,og 10 (xm 0) 9 false,og 11 (.bin .geq .num (.t 10) (.c (.int .u8 65))) 9 false,og 12 (xm 11) 9 false,og 13 (xm 0) 12 true,og 14 (.bin .leq .num (.t 13) (.c (.int .u8 90))) 12 true,og 15 (.pick (.t 12) (.t 14) (.c (.bool false))) 9 false,qo 16 9 15,qm 17 16,og 18 (xm 0) 17 false,og 19 (.bin .eql .num (.t 18) (.c (.int .u8 95))) 17 false,qo 20 17 19,qm 2 20] .ret
def ae4:=sr [qb 2 false] Sw
def aeF:List bF:=[(.tmp 2)]
theorem cf117:EI.cf 117=some ⟨21,aeF,ae4⟩:=by kernel_rfl
def Sm:=sr [oq 6 (.mkFn 124 [] [.t 2,.t 3,.t 4]),qs 1 4 6] (.region [ql 7 4,qL 8 5 1,oq 9 (.call (.t 7) [.t 8,(xn 0)])])
def GC:=sr [oq 4 (.new [.nilf])] Sm
def Sl:=sr [qc 5 123 [],oq 3 (.new [(.bool false),(.bool false),(.int .i64 0),(.int .i64 0),(.int .i64 0),(.bool false),(.bool false),(.int .i64 0),(.int .i64 0),(.int .i64 0),(.bool false),(.bool false),(.int .i64 0),(.int .i64 0),(.int .i64 0),(.bool false),(.bool false),(.int .i64 0),(.int .i64 0),(.int .i64 0),(.bool false),(.bool false),(.int .i64 0),(.int .i64 0),(.int .i64 0),(.bool false),(.bool false),(.int .i64 0),(.int .i64 0),(.int .i64 0),(.bool false),(.bool false),(.int .i64 0),(.int .i64 0),(.int .i64 0),(.bool false),(.bool false),(.int .i64 0),(.int .i64 0),(.int .i64 0),(.bool false),(.bool false),(.int .i64 0),(.int .i64 0),(.int .i64 0),(.bool false),(.bool false),(.int .i64 0),(.int .i64 0),(.int .i64 0),(.bool false),(.bool false),(.int .i64 0),(.int .i64 0),(.int .i64 0),(.bool false),(.bool false),(.int .i64 0),(.int .i64 0),(.int .i64 0),(.bool false),(.bool false),(.int .i64 0),(.int .i64 0),(.int .i64 0)]),qs 65 3 5] GC
def b122:=sr [oq 2 (.box 1 (.t 0))] Sl
def r122:List bF:=[]
theorem cf122:EI.cf 122=some ⟨10,r122,b122⟩:=by kernel_rfl
def r123:List bF:=[(.cell 0 true 65)]
def GB:=sr [ql 44 4,qL 45 5 10,qm 46 11,oq 47 (.call (.t 44) [.t 45,.t 46]),oq 48 (.un .not (.t 47))] (.cond (.t 48) (sr [qb 7 false] .ret) .skip)
def Sk:aw:=(.seq (sr [qm 39 9,qm 40 8,oq 41 (.bin .eql .num (.t 39) (.t 40))] (.cond (.t 41) (.region [qm 42 11,qa 43 42 1,qm 11 43]) .skip)) GB)
def Sj:=sr [qm 38 1,qm 11 38] Sk
def Si:aw:=(.seq (.block 1 (sr [qm 35 33,qx 36 5 31 33,qL 37 5 36,qz 10,qm 9 35,qs 5 10 37] Sj)) (.region [qa 49 33 1,qm 33 49]))
def Sh:aw:=(.seq (.cond (.t 34) .skip (.exit 0)) Si)
def Uf:=sr [qlt 34 33 32] Sh
def Sg:=sr [qb 7 true] .ret
def GA:aw:=(.seq (sr [qf 30 4 5,ql 31 30,qe 32 31,qi 33 0] (.block 0 (.loop Uf))) Sg)
def Sf:aw:=(.seq (sr [qf 17 0 5,ql 18 17,oq 19 (.bin .geq .num (.t 18) (xn 0)),qm 20 19,og 21 (xf 0 5) 20 true,og 22 (xl 21) 20 true,og 23 (.bin .lss .num (.t 22) (xn 13)) 20 true,qd 24 20 23] (.cond (.t 24) (.region [qf 25 0 5,ql 26 25,oq 27 (.iaddrA 13 5 true (.t 3) (.t 26)),qf 28 4 27,ql 29 28,qm 8 29]) .skip)) GA)
def Se:=sr [qi 8 (-1)] Sf
def HR:aw:=(.seq (sr [ql 12 2,qm 13 1,qL 14 5 5,oq 15 (.call (.t 12) [.t 13,.t 14]),oq 16 (.un .not (.t 15))] (.cond (.t 16) (sr [qb 7 false] .ret) .skip)) Se)
def b124:=sr [oq 5 (.box 5 (.t 0)),qb 7 false] HR
def aeE:List bF:=[(.tmp 7)]
theorem cf124:EI.cf 124=some ⟨50,aeE,b124⟩:=by kernel_rfl
def Sb:=sr [qL 14 5 3,qc 15 87 [.t 14],qs 5 5 15,qb 6 false] .ret
def Gz:aw:=(.seq (sr [qf 7 0 3,ql 8 7,oq 9 (.bin .eql .num (.t 8) (xn 0))] (.cond (.t 9) (sr [ql 10 2,qL 11 5 3,qm 12 1,oq 13 (.call (.t 10) [.t 11,.t 12]),qs 5 5 13,qb 6 true] .ret) .skip)) Sb)
def ae3:=sr [oq 3 (.box 5 (.t 0)),qz 5,qb 6 false] Gz
def aeD:List bF:=[(.cell 5 true 5),(.tmp 6)]
theorem cf127:EI.cf 127=some ⟨16,aeD,ae3⟩:=by kernel_rfl
def Sa:=sr [qi 4 0] .ret
def RZ:aw:=(.seq (.block 0 (.seq (sr [qm 6 1,oq 7 (.bin .eql .num (.t 6) (xn 1)),qm 8 7,og 9 (xm 0) 8 true,og 10 (.bin .eql .num (.t 9) (xn 5)) 8 true,og 11 (xm 10) 8 true,og 12 (xm 0) 11 false,og 13 (.bin .eql .num (.t 12) (xn 6)) 11 false,og 14 (.pick (.t 11) (.c (.bool true)) (.t 13)) 8 true,og 15 (xm 14) 8 true,og 16 (xm 0) 15 false,og 17 (.bin .eql .num (.t 16) (xn 7)) 15 false,og 18 (.pick (.t 15) (.c (.bool true)) (.t 17)) 8 true,qd 19 8 18,qm 5 19] (.cond (.t 5) .skip (.region [qm 20 1,oq 21 (.bin .eql .num (.t 20) (xn 2)),qm 22 21,og 23 (xm 0) 22 true,og 24 (.bin .eql .num (.t 23) (xn 11)) 22 true,qd 25 22 24,qm 5 25]))) (.cond (.t 5) (sr [qi 4 1] .ret) .skip))) Sa)
def ae2:=sr [qi 4 0] RZ
def r128:List bF:=[(.tmp 4)]
theorem cf128:EI.cf 128=some ⟨26,r128,ae2⟩:=by kernel_rfl
def b130:=sr [qm 4 0,oq 5 (.nilChk (.t 4)),qf 6 0 5,ql 7 6,oq 8 (.bin .eql .num (.t 7) (xn 0))] (.cond (.t 8) (.region [qm 9 0,qm 10 1,oq 11 (.nilChk (.t 9)),qf 12 0 11,qs 1 12 10]) .skip)
def r130:List bF:=[]
theorem cf130:EI.cf 130=some ⟨13,r130,b130⟩:=by kernel_rfl
def RY:=sr [qm 9 1,oq 10 (.build zT [(0,1,(xn 0)),(1,1,(.t 9))]),qs 5 4 10] .ret
def RW:aw:=(.seq (sr [qm 5 1,oq 6 (.bin .gtr .num (.t 5) (xn 65535))] (.cond (.t 6) (.region [qm 7 0,qc 8 130 [.t 7,(xn 24)]]) .skip)) RY)
def b131:=sr [qz 4] RW
def r131:List bF:=[(.cell 4 true 5)]
theorem cf131:EI.cf 131=some ⟨11,r131,b131⟩:=by kernel_rfl
def aeO (f:Nat):Bool:=Nat.beq f 164||Nat.beq f 137||Nat.beq f 198||Nat.beq f 210||Nat.beq f 240
noncomputable def EF:AG.Env:=Fm Tryz.prog tx (fun f=>!(aeO f))
def s4_0:=sr [qc 22 13 [],qm 23 22,og 24 (xm 3) 23 true,og 25 (xm 5) 23 true,og 26 (xc 17 [.t 24,.t 25]) 23 true,qd 27 23 26,qm 28 27,og 29 (xm 4) 28 true,og 30 (xm 6) 28 true,og 31 (.bin .eql .num (.t 29) (.t 30)) 28 true,qd 32 28 31,qm 2 32] .ret
def s4_1:aw:=(.seq (.draw [dq (qL 17 4 1) 0 1 false,dq (qc 18 16 []) 0 1 true,dq (qc 19 15 [(.c .nl),.t 17,.t 18]) 1 2 true,dq (qm 16 19) 2 2 true,dq (oq 20 (.extract (.t 16) 0)) 2 2 false,dq (oq 21 (.extract (.t 16) 1)) 2 2 false,dq (qm 5 20) 2 2 true,dq (qm 6 21) 2 2 true]) s4_0)
def s4_2:=sr [qL 12 4 1,qc 13 14 [(.c .nl),.t 12],qm 11 13,oq 14 (.extract (.t 11) 0),oq 15 (.extract (.t 11) 1),qm 3 14,qm 4 15] s4_1
def s4_3:aw:=(.seq (sr [qL 7 4 1,qc 8 12 [.t 7],oq 9 (.un .not (.t 8))] (.cond (.t 9) (sr [qc 10 13 [],qm 2 10] .ret) .skip)) s4_2)
def b4:=sr [oq 1 (.box 4 (.t 0)),qb 2 false] s4_3
def r4:List bF:=[(.tmp 2)]
def Mq:aw:=(.seq (.block 1 (.seq (.draw [dq (qf 42 0 1) 0 0 false,dq (ql 43 42) 0 0 false,dq (qm 44 3) 0 0 false,dq (qx 45 12 43 44) 0 0 false,dq (oq 46 (.faddr 0 5 true (.t 45))) 0 0 false,dq (qL 47 5 46) 0 0 false,dq (qf 48 3 1) 0 0 true,dq (ql 49 48) 0 0 true,dq (qc 50 20 [.t 47,.t 49]) 0 1 true,dq (oq 51 (.un .not (.t 50))) 1 1 true,dq (qm 52 51) 1 1 true,dq (og 53 (xf 0 1) 52 false) 1 1 false,dq (og 54 (xl 53) 52 false) 1 1 false,dq (og 55 (xm 3) 52 false) 1 1 false,dq (og 56 (xx 12 54 55) 52 false) 1 1 false,dq (og 57 (.faddr 6 5 true (.t 56)) 52 false) 1 1 false,dq (og 58 (xL 5 57) 52 false) 1 1 false,dq (og 59 (xf 3 1) 52 false) 1 1 true,dq (og 60 (xl 59) 52 false) 1 1 true,dq (og 61 (xc 20 [.t 58,.t 60]) 52 false) 1 2 true,dq (og 62 (.un .not (.t 61)) 52 false) 2 2 true,dq (qo 63 52 62) 2 2 true]) (.cond (.t 63) (sr [qb 2 false] .ret) .skip))) (.region [qm 40 3,qa 41 40 1,qm 3 41]))
def ab9:aw:=(.seq (sr [qm 35 3,qf 36 0 1,ql 37 36,qe 38 37,qlt 39 35 38] (.cond (.t 39) .skip (.exit 0))) Mq)
def Bc:=sr [qf 76 0 1,ql 77 76,qf 78 0 5,ql 79 78,oq 80 (.faddr 1 5 true (.t 5)),qL 81 5 80,oq 82 (.faddr 6 5 true (.t 5)),qL 83 5 82,oq 84 (.lit true true 5 zT 2 [(0,(.t 81)),(1,(.t 83))]),qc 85 18 [.t 77,.t 79,.t 84],oq 86 (.un .not (.t 85)),qm 87 86,og 88 (.faddr 1 5 true (.t 5)) 87 false,og 89 (xL 5 88) 87 false,og 90 (xf 3 1) 87 false,og 91 (xl 90) 87 false,og 92 (xc 20 [.t 89,.t 91]) 87 false,og 93 (.un .not (.t 92)) 87 false,qo 94 87 93,qm 95 94,og 96 (.faddr 6 5 true (.t 5)) 95 false,og 97 (xL 5 96) 95 false,og 98 (xf 3 1) 95 false,og 99 (xl 98) 95 false,og 100 (xc 20 [.t 97,.t 99]) 95 false,og 101 (.un .not (.t 100)) 95 false,qo 102 95 101,qm 103 102,og 104 (xf 3 1) 103 false,og 105 (xl 104) 103 false,og 106 (xf 0 5) 103 false,og 107 (xl 106) 103 false,og 108 (xc 49 [.t 105,.t 107]) 103 false,og 109 (.un .not (.t 108)) 103 false,qo 110 103 109] (.cond (.t 110) (sr [qb 2 false] .ret) .skip)
def abi:aw:=(.seq (.block 3 (sr [qf 71 1 1,ql 72 71,qm 73 4,qx 74 12 72 73,qL 75 12 74,oq 5 (.new [.nl,(.int .i64 0),(.int .i64 0),(.str (bs [])),.nl,.nl,(.int .i64 0),(.int .i64 0),(.str (bs [])),.nl,.nl,(.bool false)]),qs 12 5 75] Bc)) (.region [qm 69 4,qa 70 69 1,qm 4 70]))
def ab8:aw:=(.seq (sr [qm 64 4,qf 65 1 1,ql 66 65,qe 67 66,qlt 68 64 67] (.cond (.t 68) .skip (.exit 2))) abi)
def Mp:aw:=(.seq (.block 5 (sr [qf 118 2 1,ql 119 118,qm 120 6,qx 121 4 119 120,oq 122 (.faddr 0 2 true (.t 121)),qf 123 1 122,ql 124 123,qe 125 124,oq 126 (.bin .gtr .num (.t 125) (xn 8)),qm 127 126,og 128 (xf 2 1) 127 false,og 129 (xl 128) 127 false,og 130 (xm 6) 127 false,og 131 (xx 4 129 130) 127 false,og 132 (.faddr 2 2 true (.t 131)) 127 false,og 133 (xf 1 132) 127 false,og 134 (xl 133) 127 false,og 135 (xe 134) 127 false,og 136 (.bin .gtr .num (.t 135) (xn 8)) 127 false,qo 137 127 136] (.cond (.t 137) (sr [qb 2 false] .ret) .skip))) (.region [qm 116 6,qa 117 116 1,qm 6 117]))
def ab7:aw:=(.seq (sr [qm 111 6,qf 112 2 1,ql 113 112,qe 114 113,qlt 115 111 114] (.cond (.t 115) .skip (.exit 4))) Mp)
def abh:=sr [qm 146 8,oq 147 (.bin .eql .num (.t 146) (xn 0)),qm 2 147] .ret
def Vz:=sr [qf 139 3 1,ql 140 139,qf 141 2 1,ql 142 141,qc 143 50 [.t 140,.t 142],qm 138 143,oq 144 (.extract (.t 138) 0),oq 145 (.extract (.t 138) 1),qm 7 144,qm 8 145] abh
def Vy:aw:=(.seq (sr [qi 6 0] (.block 4 (.loop ab7))) Vz)
def Gy:aw:=(.seq (sr [qi 4 0] (.block 2 (.loop ab8))) Vy)
def Gw:aw:=(.seq (sr [qi 3 0] (.block 0 (.loop ab9))) Gy)
def oV:aw:=(.seq (sr [qf 9 0 1,ql 10 9,qc 11 48 [.t 10],oq 12 (.un .not (.t 11)),qm 13 12,og 14 (xf 1 1) 13 false,og 15 (xl 14) 13 false,og 16 (xe 15) 13 false,og 17 (.bin .gtr .num (.t 16) (xn 5)) 13 false,qo 18 13 17,qm 19 18,og 20 (xf 2 1) 19 false,og 21 (xl 20) 19 false,og 22 (xe 21) 19 false,og 23 (.bin .gtr .num (.t 22) (xn 8)) 19 false,qo 24 19 23,qm 25 24,og 26 (xf 3 1) 25 false,og 27 (xl 26) 25 false,og 28 (.bin .lss .num (.t 27) (xn 0)) 25 false,qo 29 25 28,qm 30 29,og 31 (xf 3 1) 30 false,og 32 (xl 31) 30 false,og 33 (.bin .gtr .num (.t 32) (xn 20)) 30 false,qo 34 30 33] (.cond (.t 34) (sr [qb 2 false] .ret) .skip)) Gw)
def b12:=sr [oq 1 (.box 4 (.t 0)),qb 2 false] oV
def r12:List bF:=[(.tmp 2)]
theorem cf12:EF.cf 12=some ⟨148,r12,b12⟩:=by kernel_rfl
def Vx:=sr [qL 38 5 8,qm 39 1,qe 40 39,qm 41 0,qe 42 41,qc 43 7 [.t 38,.t 40,(xn 8),.t 42,(xn 65536)],oq 44 (.bin .neq .num (.t 43) (xn 0))] (.cond (.t 44) (sr [qb 6 false] .ret) .skip)
def Vw:aw:=(.seq (.block 1 (sr [qx 36 5 32 34,qL 37 5 36,qz 8,qs 5 8 37] Vx)) (.region [qa 45 34 1,qm 34 45]))
def abf:aw:=(.seq (.cond (.t 35) .skip (.exit 0)) Vw)
def ab6:=sr [qlt 35 34 33] abf
def abe:=sr [qm 46 1,qm 47 0,qe 48 47,qc 49 59 [.t 46,(xn 0),(xn 8),.t 48,(xn 65536)],oq 50 (.bin .eql .num (.t 49) (xn 0)),qm 6 50] .ret
def abd:aw:=(.seq (sr [qm 32 2,qe 33 32,qi 34 0] (.block 0 (.loop ab6))) abe)
def yv:aw:=(.seq (sr [qm 9 1,qe 10 9,oq 11 (.bin .gtr .num (.t 10) (xn 6)),qm 12 11,og 13 (xm 1) 12 false,og 14 (xc 24 [(xn 60),.t 13]) 12 false,og 15 (.bin .gtr .num (.t 14) (xn 60)) 12 false,qo 16 12 15,qm 17 16,og 18 (xm 2) 17 false,og 19 (xc 24 [(xn 60),.t 18]) 17 false,og 20 (.bin .gtr .num (.t 19) (xn 60)) 17 false,qo 21 17 20,qm 22 21,og 23 (xm 1) 22 false,og 24 (xc 6 [.t 23]) 22 false,og 25 (.un .not (.t 24)) 22 false,qo 26 22 25,qm 27 26,og 28 (xm 2) 27 false,og 29 (xc 6 [.t 28]) 27 false,og 30 (.un .not (.t 29)) 27 false,qo 31 27 30] (.cond (.t 31) (sr [qb 6 false] .ret) .skip)) abd)
def b18:=sr [qb 6 false] yv
def r18:List bF:=[(.tmp 6)]
theorem cf18:EF.cf 18=some ⟨51,r18,b18⟩:=by kernel_rfl
def aba:aw:=(.seq (.block 3 (sr [qf 26 3 2,ql 27 26,qm 28 5,qx 29 2 27 28,qf 30 1 29,ql 31 30,qm 32 6,qx 33 2 31 32,qf 34 0 33,ql 35 34,qm 36 1,oq 37 (.un .neg (.t 36)),qlt 38 35 37] (.cond (.t 38) (sr [qb 4 false] .ret) .skip))) (.region [qm 24 6,qa 25 24 1,qm 6 25]))
def ab5:aw:=(.seq (sr [qm 15 6,qf 16 3 2,ql 17 16,qm 18 5,qx 19 2 17 18,qf 20 1 19,ql 21 20,qe 22 21,qlt 23 15 22] (.cond (.t 23) .skip (.exit 2))) aba)
def aa9:aw:=(.seq (.block 1 (sr [qi 6 0] (.block 2 (.loop ab5)))) (.region [qm 13 5,qa 14 13 1,qm 5 14]))
def ab4:aw:=(.seq (sr [qm 8 5,qf 9 3 2,ql 10 9,qe 11 10,qlt 12 8 11] (.cond (.t 12) .skip (.exit 0))) aa9)
def Vv:aw:=(.seq (.block 5 (sr [qf 46 4 2,ql 47 46,qm 48 7,qx 49 5 47 48,qL 50 5 49,qm 51 1,qc 52 20 [.t 50,.t 51],oq 53 (.un .not (.t 52))] (.cond (.t 53) (sr [qb 4 false] .ret) .skip))) (.region [qm 44 7,qa 45 44 1,qm 7 45]))
def ab3:aw:=(.seq (sr [qm 39 7,qf 40 4 2,ql 41 40,qe 42 41,qlt 43 39 42] (.cond (.t 43) .skip (.exit 4))) Vv)
def aa8:=sr [qb 4 true] .ret
def aa7:aw:=(.seq (sr [qi 7 0] (.block 4 (.loop ab3))) aa8)
def aa6:aw:=(.seq (sr [qi 5 0] (.block 0 (.loop ab4))) aa7)
def b20:=sr [oq 2 (.box 5 (.t 0)),qb 4 false] aa6
def r20:List bF:=[(.tmp 4)]
theorem cf20:EF.cf 20=some ⟨54,r20,b20⟩:=by kernel_rfl
def ES:=sr [qf 38 5 4,ql 39 38,qm 40 39,og 41 (.faddr 6 5 true (.t 4)) 40 true,og 42 (xL 5 41) 40 true,og 43 (xm 0) 40 true,og 44 (xe 43) 40 true,og 45 (xc 7 [.t 42,(xn 0),(xn 8),.t 44,(xn 65536)]) 40 true,og 46 (.bin .neq .num (.t 45) (xn 0)) 40 true,qd 47 40 46,qm 48 47,og 49 (xf 5 4) 48 false,og 50 (xl 49) 48 false,og 51 (.un .not (.t 50)) 48 false,og 52 (xm 51) 48 false,og 53 (.faddr 6 5 true (.t 4)) 52 true,og 54 (xL 5 53) 52 true,og 55 (.build zT []) 52 true,og 56 (xc 11 [.t 54,.t 55]) 52 true,og 57 (.un .not (.t 56)) 52 true,og 58 (.pick (.t 52) (.t 57) (.c (.bool false))) 48 false,qo 59 48 58] (.cond (.t 59) (sr [qb 2 false] .ret) .skip)
def vS:aw:=(.seq (sr [oq 14 (.faddr 0 5 true (.t 4)),qL 15 5 14,oq 16 (.faddr 6 5 true (.t 4)),qL 17 5 16,oq 18 (.lit true true 5 zT 2 [(0,(.t 15)),(1,(.t 17))]),qc 19 24 [(xn 40),.t 18],oq 20 (.bin .gtr .num (.t 19) (xn 40)),qm 21 20,og 22 (.faddr 0 5 true (.t 4)) 21 false,og 23 (xL 5 22) 21 false,og 24 (.faddr 6 5 true (.t 4)) 21 false,og 25 (xL 5 24) 21 false,og 26 (.lit true true 5 zT 2 [(0,(.t 23)),(1,(.t 25))]) 21 false,og 27 (xc 6 [.t 26]) 21 false,og 28 (.un .not (.t 27)) 21 false,qo 29 21 28,qm 30 29,og 31 (.faddr 0 5 true (.t 4)) 30 false,og 32 (xL 5 31) 30 false,og 33 (xm 0) 30 false,og 34 (xe 33) 30 false,og 35 (xc 7 [.t 32,(xn 0),(xn 8),.t 34,(xn 65536)]) 30 false,og 36 (.bin .neq .num (.t 35) (xn 0)) 30 false,qo 37 30 36] (.cond (.t 37) (sr [qb 2 false] .ret) .skip)) ES)
def vR:aw:=(.seq (.block 1 (sr [qx 12 12 8 10,qL 13 12 12,oq 4 (.new [(.int .i64 0),(.int .i64 0),(.str (bs [])),.nl,.nl,(.bool false),(.int .i64 0),(.int .i64 0),(.str (bs [])),.nl,.nl,(.bool false)]),qs 12 4 13] vS)) (.region [qa 60 10 1,qm 10 60]))
def aaM:aw:=(.seq (.cond (.t 11) .skip (.exit 0)) vR)
def abY:=sr [qlt 11 10 9] aaM
def aaL:=sr [qb 2 true] .ret
def aaK:aw:=(.seq (sr [qm 8 0,qe 9 8,qi 10 0] (.block 0 (.loop abY))) aaL)
def aaJ:aw:=(.seq (sr [qm 5 0,qe 6 5,oq 7 (.bin .gtr .num (.t 6) (xn 8))] (.cond (.t 7) (sr [qb 2 false] .ret) .skip)) aaK)
def b48:=sr [qb 2 false] aaJ
def r48:List bF:=[(.tmp 2)]
theorem cf48:EF.cf 48=some ⟨61,r48,b48⟩:=by kernel_rfl
def Ve:aw:=(.seq (.block 1 (sr [qm 12 1,qm 13 5,qx 14 5 12 13,qL 15 5 14,qm 16 0,qc 17 20 [.t 15,.t 16],oq 18 (.un .not (.t 17))] (.cond (.t 18) (sr [qb 4 false] .ret) .skip))) (.region [qm 10 5,qa 11 10 1,qm 5 11]))
def abX:aw:=(.seq (sr [qm 6 5,qm 7 1,qe 8 7,qlt 9 6 8] (.cond (.t 9) .skip (.exit 0))) Ve)
def aaI:=sr [qb 4 true] .ret
def aaH:aw:=(.seq (sr [qi 5 0] (.block 0 (.loop abX))) aaI)
def b49:=sr [qb 4 false] aaH
def r49:List bF:=[(.tmp 4)]
theorem cf49:EF.cf 49=some ⟨19,r49,b49⟩:=by kernel_rfl
def Vd:aw:=(.seq (.block 3 (sr [qm 52 8,qm 53 9,qx 54 2 52 53,qf 55 0 54,ql 56 55,oq 57 (.bin .lss .num (.t 56) (xn 0)),qm 58 57,og 59 (xm 8) 58 true,og 60 (xm 9) 58 true,og 61 (xx 2 59 60) 58 true,og 62 (xf 0 61) 58 true,og 63 (xl 62) 58 true,og 64 (.bin .sub .num (xn (-1)) (.t 63)) 58 true,og 65 (xm 0) 58 true,og 66 (.bin .geq .num (.t 64) (.t 65)) 58 true,qd 67 58 66] (.cond (.t 67) (sr [qm 68 6,qm 4 68,qi 5 24] .ret) .skip))) (.region [qm 50 9,qa 51 50 1,qm 9 51]))
def abW:aw:=(.seq (sr [qm 46 9,qm 47 8,qe 48 47,qlt 49 46 48] (.cond (.t 49) .skip (.exit 2))) Vd)
def aaG:=sr [qi 9 0] (.block 2 (.loop abW))
def aaF:aw:=(.seq (.draw [dq (oq 37 (.lit true true 2 [(.int .i64 0),(.int .i64 0)] 0 [])) 0 0 false,dq (oq 38 (.faddr 0 2 true (.t 7))) 0 0 false,dq (qf 39 1 38) 0 0 false,dq (ql 40 39) 0 0 false,dq (oq 41 (.builtin (.append 2 true [(.int .i64 0),(.int .i64 0)] 16) [.t 37,.t 40])) 0 1 false,dq (oq 42 (.faddr 2 2 true (.t 7))) 0 1 true,dq (qf 43 1 42) 0 1 true,dq (ql 44 43) 0 1 true,dq (oq 45 (.builtin (.append 2 true [(.int .i64 0),(.int .i64 0)] 16) [.t 41,.t 44])) 1 2 true,dq (qm 8 45) 2 2 true]) aaG)
def Mk:aw:=(.seq (sr [oq 26 (.faddr 0 2 true (.t 7)),qL 27 2 26,qc 28 21 [.t 27],oq 29 (.un .not (.t 28)),qm 30 29,og 31 (.faddr 2 2 true (.t 7)) 30 false,og 32 (xL 2 31) 30 false,og 33 (xc 21 [.t 32]) 30 false,og 34 (.un .not (.t 33)) 30 false,qo 35 30 34] (.cond (.t 35) (sr [qm 36 6,qm 4 36,qi 5 3] .ret) .skip)) aaF)
def Mj:aw:=(.seq (.block 1 (sr [qm 22 1,qm 23 6,qx 24 4 22 23,qL 25 4 24,oq 7 (.new [(.int .i64 0),.nl,(.int .i64 0),.nl]),qs 4 7 25] Mk)) (.region [qm 20 6,qa 21 20 1,qm 6 21]))
def abV:aw:=(.seq (sr [qm 16 6,qm 17 1,qe 18 17,qlt 19 16 18] (.cond (.t 19) .skip (.exit 0))) Mj)
def aaE:=sr [qi 4 0,qi 5 0] .ret
def aaD:aw:=(.seq (sr [qi 6 0] (.block 0 (.loop abV))) aaE)
def aaC:aw:=(.seq (sr [qm 10 0,oq 11 (.bin .lss .num (.t 10) (xn 0)),qm 12 11,og 13 (xm 0) 12 false,og 14 (.bin .gtr .num (.t 13) (xn 2000)) 12 false,qo 15 12 14] (.cond (.t 15) (sr [qi 4 0,qi 5 2] .ret) .skip)) aaD)
def b50:=sr [qi 4 0,qi 5 0] aaC
def r50:List bF:=[(.tmp 4),(.tmp 5)]
theorem cf50:EF.cf 50=some ⟨69,r50,b50⟩:=by kernel_rfl
def Vc:=sr [qm 30 12,oq 31 (.bin .neq .num (.t 30) (xn 0))] (.cond (.t 31) (sr [qm 32 12,qm 10 32] .ret) .skip)
def UZ:aw:=(.seq (.block 1 (sr [qm 19 0,qm 20 11,qx 21 5 19 20,qL 22 5 21,qm 23 1,qm 24 11,oq 25 (.bin .add .num (.t 23) (.t 24)),qm 26 2,qm 27 3,qm 28 4,qc 29 7 [.t 22,.t 25,.t 26,.t 27,.t 28],qm 12 29] Vc)) (.region [qm 17 11,qa 18 17 1,qm 11 18]))
def abT:aw:=(.seq (sr [qm 13 11,qm 14 0,qe 15 14,qlt 16 13 15] (.cond (.t 16) .skip (.exit 0))) UZ)
def aax:=sr [qi 10 0] .ret
def aaw:aw:=(.seq (sr [qi 11 0] (.block 0 (.loop abT))) aax)
def b59:=sr [qi 10 0] aaw
def r59:List bF:=[(.tmp 10)]
theorem cf59:EF.cf 59=some ⟨33,r59,b59⟩:=by kernel_rfl
def b99_0:aw:=(.region [oq 9 (.new [(.int .i64 0),.nl]),qs 2 9 26])
def s99_1:aw:=(.seq (sr [qm 58 11,oq 59 (.bin .neq .num (.t 58) (xn 0))] (.cond (.t 59) (sr [⟨none,(.store 1 (.t 4) (.c (.bool false))),none⟩,⟨none,(.store 1 (.t 5) (xn 15)),none⟩] .ret) .skip)) (.region [ql 60 2,qm 61 12,qL 62 2 14,qx 63 2 60 61,qs 2 63 62,⟨none,(.store 1 (.t 8) (.c (.bool true))),none⟩]))
def s99_2:aw:=(.seq (.draw [dq (ql 48 2) 0 1 false,dq (qm 49 12) 0 1 false,dq (qx 50 2 48 49) 0 1 false,dq (qL 51 2 50) 0 1 false,dq (qL 52 2 9) 0 0 false,dq (qm 53 13) 0 0 false,dq (qc 54 141 [.t 52,.t 53]) 0 1 false,dq (qc 55 140 [.t 51,.t 54]) 1 2 false,dq (qm 47 55) 2 2 false,dq (oq 56 (.extract (.t 47) 0)) 2 2 false,dq (oq 57 (.extract (.t 47) 1)) 2 3 false,dq (oq 14 (.new [(.int .i64 0),.nl])) 0 2 true,dq (qs 2 14 56) 2 3 true,dq (qm 11 57) 3 3 true]) s99_1)
def s99_3:aw:=(.seq (sr [qm 45 12,oq 46 (.bin .lss .num (.t 45) (xn 0))] (.cond (.t 46) (sr [⟨none,(.store 1 (.t 4) (.c (.bool false))),none⟩,⟨none,(.store 1 (.t 5) (xn 15)),none⟩] .ret) .skip)) s99_2)
def s99_4:=sr [oq 40 (.faddr 2 2 true (.t 3)),qL 41 2 40,qc 42 139 [.t 41],qm 39 42,oq 43 (.extract (.t 39) 0),oq 44 (.extract (.t 39) 1),qm 12 43,qm 13 44] s99_3
def s99_5:aw:=(.seq (sr [qL 36 2 9,qL 37 2 10,qc 38 138 [.t 36,.t 37]] (.cond (.t 38) (.exit 1) .skip)) s99_4)
def s99_6:aw:=(.seq (sr [qm 34 11,oq 35 (.bin .neq .num (.t 34) (xn 0))] (.cond (.t 35) (sr [⟨none,(.store 1 (.t 4) (.c (.bool false))),none⟩,⟨none,(.store 1 (.t 5) (xn 15)),none⟩] .ret) .skip)) s99_5)
def b99_7:aw:=(.block 1 (sr [oq 28 (.faddr 2 2 true (.t 3)),qL 29 2 28,ql 30 2,qc 31 115 [.t 29,.t 30],qm 27 31,oq 32 (.extract (.t 27) 0),oq 33 (.extract (.t 27) 1),oq 10 (.new [(.int .i64 0),.nl]),qs 2 10 32,qm 11 33] s99_6))
def SI:=sr [qm 35 9,oq 36 (.bin .geq .num (.t 35) (xn 0)),qm 37 36,og 38 (xm 9) 37 true,og 39 (xm 1) 37 true,og 40 (xe 39) 37 true,og 41 (.bin .lss .num (.t 38) (.t 40)) 37 true,qd 42 37 41] (.cond (.t 42) (.draw [dq (qm 43 6) 0 0 false,dq (qm 44 1) 0 0 false,dq (qm 45 9) 0 0 false,dq (qx 46 2 44 45) 0 0 false,dq (qL 47 2 46) 0 0 false,dq (qf 48 1 8) 0 0 true,dq (ql 49 48) 0 0 true,dq (qc 50 165 [.t 43,.t 47,.t 49]) 0 1 true]) (.draw [dq (qm 51 6) 0 0 false,dq (oq 52 (.nilChk (.t 51))) 0 0 false,dq (qf 53 0 52) 0 0 false,dq (ql 54 53) 0 0 false,dq (qf 55 0 8) 0 0 false,dq (ql 56 55) 0 0 false,dq (qf 57 1 8) 0 0 true,dq (ql 58 57) 0 0 true,dq (qc 59 166 [.t 54,.t 56,.t 58]) 0 1 true]))
def SH:=sr [qf 32 0 8,ql 33 32,oq 34 (.bin .sub .num (xn (-1)) (.t 33)),qm 9 34] SI
def SG:aw:=(.seq (.block 1 (sr [qx 30 2 26 28,qL 31 2 30,oq 8 (.new [(.int .i64 0),(.int .i64 0)]),qs 2 8 31] SH)) (.region [qa 60 28 1,qm 28 60]))
def SF:aw:=(.seq (.cond (.t 29) .skip (.exit 0)) SG)
def Uh:=sr [qlt 29 28 27] SF
def SE:=sr [qm 61 6,qc 62 167 [.t 61],oq 63 (.extract (.t 62) 0),oq 64 (.extract (.t 62) 1),qs 2 4 63,qm 5 64] .ret
def SD:aw:=(.seq (sr [qf 25 1 2,ql 26 25,qe 27 26,qi 28 0] (.block 0 (.loop Uh))) SE)
def SC:=sr [qm 20 6,qf 21 0 2,ql 22 21,oq 23 (.nilChk (.t 20)),qf 24 1 23,qs 1 24 22] SD
def SB:=sr [qc 19 164 [],qm 6 19] SC
def Sz:aw:=(.seq (sr [qL 10 2 2,qc 11 135 [.t 10],oq 12 (.un .not (.t 11)),qm 13 12,og 14 (xm 1) 13 false,og 15 (xc 163 [.t 14]) 13 false,og 16 (.un .not (.t 15)) 13 false,qo 17 13 16] (.cond (.t 17) (sr [oq 18 (.build [(.int .i64 0),.nl] []),qs 2 4 18,qi 5 3] .ret) .skip)) SB)
def b115:=sr [oq 2 (.box 2 (.t 0)),oq 4 (.new [(.int .i64 0),.nl]),qi 5 0] Sz
def r115:List bF:=[(.cell 4 true 2),(.tmp 5)]
theorem cf115:EF.cf 115=some ⟨65,r115,b115⟩:=by kernel_rfl
def Gv:aw:=(.seq (.draw [dq (qf 30 0 4) 0 0 true,dq (ql 31 30) 0 0 true,dq (oq 32 (.bin .lss .num (.t 31) (xn (-65536)))) 0 0 true,dq (qm 33 32) 0 0 true,dq (og 34 (xf 0 4) 33 false) 0 0 true,dq (og 35 (xl 34) 33 false) 0 0 true,dq (og 36 (.bin .gtr .num (.t 35) (xn 7)) 33 false) 0 0 true,dq (qo 37 33 36) 0 0 true,dq (qm 38 37) 0 0 true,dq (og 39 (xf 1 4) 38 false) 0 0 true,dq (og 40 (xl 39) 38 false) 0 0 true,dq (og 41 (.bin .lss .num (.t 40) (xn 0)) 38 false) 0 0 true,dq (qo 42 38 41) 0 0 true,dq (qm 43 42) 0 0 true,dq (og 44 (xf 1 4) 43 false) 0 0 true,dq (og 45 (xl 44) 43 false) 0 0 true,dq (og 46 (.bin .gtr .num (.t 45) (xn 100)) 43 false) 0 0 true,dq (qo 47 43 46) 0 0 true,dq (qm 48 47) 0 0 true,dq (og 49 (xm 3) 48 false) 0 0 true,dq (og 50 (.bin .gtr .num (.t 49) (xn 0)) 48 false) 0 0 true,dq (og 51 (xm 50) 48 false) 0 0 true,dq (og 52 (xf 1 1) 51 true) 0 0 false,dq (og 53 (xl 52) 51 true) 0 0 false,dq (og 54 (xm 3) 51 true) 0 0 false,dq (og 55 (.bin .sub .num (.t 54) (xn 1)) 51 true) 0 0 false,dq (og 56 (xx 2 53 55) 51 true) 0 0 false,dq (og 57 (xf 0 56) 51 true) 0 0 false,dq (og 58 (xl 57) 51 true) 0 0 false,dq (og 59 (xf 0 4) 51 true) 0 0 true,dq (og 60 (xl 59) 51 true) 0 0 true,dq (og 61 (.bin .geq .num (.t 58) (.t 60)) 51 true) 0 0 true,dq (og 62 (.pick (.t 51) (.t 61) (.c (.bool false))) 48 false) 0 0 true,dq (qo 63 48 62) 0 0 true]) (.cond (.t 63) (sr [qb 2 false] .ret) .skip))
def Gu:aw:=(.seq (.block 1 (sr [qm 27 25,qx 28 2 23 25,qL 29 2 28,oq 4 (.new [(.int .i64 0),(.int .i64 0)]),qm 3 27,qs 2 4 29] Gv)) (.region [qa 64 25 1,qm 25 64]))
def RV:aw:=(.seq (.cond (.t 26) .skip (.exit 0)) Gu)
def Ue:=sr [qlt 26 25 24] RV
def RU:=sr [qb 2 true] .ret
def Gt:aw:=(.seq (sr [qf 22 1 1,ql 23 22,qe 24 23,qi 25 0] (.block 0 (.loop Ue))) RU)
def tE:aw:=(.seq (sr [qf 5 0 1,ql 6 5,oq 7 (.bin .lss .num (.t 6) (xn 0)),qm 8 7,og 9 (xf 0 1) 8 false,og 10 (xl 9) 8 false,og 11 (.bin .gtr .num (.t 10) (xn 100)) 8 false,qo 12 8 11,qm 13 12,og 14 (xf 0 1) 13 false,og 15 (xl 14) 13 false,og 16 (.bin .gtr .num (.t 15) (xn 0)) 13 false,og 17 (xm 16) 13 false,og 18 (xL 2 1) 17 true,og 19 (xc 192 [.t 18]) 17 true,og 20 (.pick (.t 17) (.t 19) (.c (.bool false))) 13 false,qo 21 13 20] (.cond (.t 21) (sr [qb 2 false] .ret) .skip)) Gt)
def ae1:=sr [oq 1 (.box 2 (.t 0)),qb 2 false] tE
def r135:List bF:=[(.tmp 2)]
theorem cf135:EF.cf 135=some ⟨65,r135,ae1⟩:=by kernel_rfl
def RT:=sr [qL 15 2 2,qm 16 1,qc 17 201 [.t 15,.t 16,(.c (.bool true))],oq 18 (.extract (.t 17) 0),oq 19 (.extract (.t 17) 1),qs 2 4 18,qm 5 19] .ret
def RR:aw:=(.seq (sr [qL 6 2 2,qc 7 21 [.t 6],oq 8 (.un .not (.t 7)),qm 9 8,og 10 (xm 1) 9 false,og 11 (xc 200 [.t 10]) 9 false,og 12 (.un .not (.t 11)) 9 false,qo 13 9 12] (.cond (.t 13) (sr [oq 14 (.build [(.int .i64 0),.nl] []),qs 2 4 14,qi 5 3] .ret) .skip)) RT)
def b142:=sr [oq 2 (.box 2 (.t 0)),oq 4 (.new [(.int .i64 0),.nl]),qi 5 0] RR
def r142:List bF:=[(.cell 4 true 2),(.tmp 5)]
theorem cf142:EF.cf 142=some ⟨20,r142,b142⟩:=by kernel_rfl
def GH:=sr [qm 5 0,qm 6 1,qc 7 159 [.t 5,.t 6],oq 8 (.bin .geq .num (.t 7) (xn 0)),qm 4 8] .ret
def ae6:=sr [qb 4 false] GH
def aeJ:List bF:=[(.tmp 4)]
theorem abG:EF.cf 109=some ⟨9,aeJ,ae6⟩:=by kernel_rfl
def An:=sr [qm 11 1,qm 12 0,qm 13 5,qx 14 2 12 13,qL 15 2 14,oq 16 (.call (.t 11) [.t 15])] (.cond (.t 16) (sr [qm 17 5,qm 4 17] .ret) .skip)
def Am:aw:=(.seq (.block 1 (sr [qm 10 8,qm 5 10] An)) (.region [qa 18 8 1,qm 8 18]))
def Gg:aw:=(.seq (.cond (.t 9) .skip (.exit 0)) Am)
def Hl:=sr [qlt 9 8 7] Gg
def Gf:=sr [qi 4 (-1)] .ret
def Ge:aw:=(.seq (sr [qm 6 0,qe 7 6,qi 8 0] (.block 0 (.loop Hl))) Gf)
def ae0:=sr [qi 4 0] Ge
def Zl:List bF:=[(.tmp 4)]
theorem abF:EF.cf 159=some ⟨19,Zl,ae0⟩:=by kernel_rfl
def Re:=sr [qm 3 0,oq 4 (.call (.c (.fn 25 [] [])) [.t 3,(.c (.fn 208 [] []))]),oq 5 (.un .not (.t 4)),qm 2 5] .ret
def b163:=sr [qb 2 false] Re
def r163:List bF:=[(.tmp 2)]
theorem cf163:EF.cf 163=some ⟨6,r163,b163⟩:=by kernel_rfl
def Qr:=sr [qL 3 2 1,qc 4 135 [.t 3],oq 5 (.un .not (.t 4)),qm 2 5] .ret
def b208:=sr [oq 1 (.box 2 (.t 0)),qb 2 false] Qr
def r208:List bF:=[(.tmp 2)]
theorem cf208:EF.cf 208=some ⟨6,r208,b208⟩:=by kernel_rfl
def Rc:=sr [oq 1 .mkMap,oq 2 (.build [.nilm,(.int .i64 0)] [(0,1,(.t 1))]),oq 3 (.box 2 (.t 2)),qm 0 3] .ret
def b164:=sr [oq 0 (.mv (.c .nilp))] Rc
def r164:List bF:=[(.tmp 0)]
theorem cf164:EF.cf 164=some ⟨4,r164,b164⟩:=by kernel_rfl
def Rb:aw:=(.seq (.block 1 (sr [qx 25 2 21 23,qL 26 2 25,oq 7 (.new [(.int .i64 0),(.int .i64 0)]),qs 2 7 26] (.draw [dq (qm 27 0) 0 0 false,dq (oq 28 (.nilChk (.t 27))) 0 0 false,dq (qf 29 0 28) 0 0 false,dq (ql 30 29) 0 0 false,dq (qf 31 0 7) 0 0 false,dq (ql 32 31) 0 0 false,dq (qf 33 1 7) 0 0 false,dq (ql 34 33) 0 0 false,dq (qm 35 2) 0 0 true,dq (oq 36 (.bin .add .num (.t 34) (.t 35))) 0 0 true,dq (qc 37 166 [.t 30,.t 32,.t 36]) 0 1 true]))) (.region [qa 38 23 1,qm 23 38]))
def Ra:aw:=(.seq (.cond (.t 24) .skip (.exit 0)) Rb)
def TZ:=sr [qlt 24 23 22] Ra
def QZ:=sr [qf 20 1 4,ql 21 20,qe 22 21,qi 23 0] (.block 0 (.loop TZ))
def QY:aw:=(.seq (.draw [dq (qm 8 0) 0 0 false,dq (qm 9 0) 0 0 false,dq (oq 10 (.nilChk (.t 9))) 0 0 false,dq (qf 11 1 10) 0 0 false,dq (ql 12 11) 0 0 false,dq (qf 13 0 4) 0 0 false,dq (ql 14 13) 0 0 false,dq (qm 15 2) 0 0 true,dq (oq 16 (.bin .add .num (.t 14) (.t 15))) 0 0 true,dq (oq 17 (.builtin .max [.t 12,.t 16])) 0 0 true,dq (oq 18 (.nilChk (.t 8))) 0 0 true,dq (qf 19 1 18) 0 0 true,dq (qs 1 19 17) 0 1 true]) QZ)
def b165:=sr [oq 4 (.box 2 (.t 1))] QY
def r165:List bF:=[]
theorem cf165:EF.cf 165=some ⟨39,r165,b165⟩:=by kernel_rfl
def FW:=sr [qm 14 7,oq 15 (.un .not (.t 14)),qm 16 15,og 17 (xm 2) 16 false,og 18 (xm 6) 16 false,og 19 (.bin .gtr .num (.t 17) (.t 18)) 16 false,qo 20 16 19] (.cond (.t 20) (.region [qm 21 0,qm 22 1,qm 23 2,⟨none,(.mapUp 1 (.t 21) (.t 22) (.t 23)),none⟩]) .skip)
def b166:=sr [qm 9 0,qm 10 1,oq 11 (.lookup 1 (.int .i64 0) (.t 9) (.t 10) true),qm 8 11,oq 12 (.extract (.t 8) 0),oq 13 (.extract (.t 8) 1),qm 6 12,qm 7 13] FW
def acr:List bF:=[]
theorem cf166:EF.cf 166=some ⟨24,acr,b166⟩:=by kernel_rfl
def QX:aw:=(.seq (.block 1 (sr [qx 21 1 17 19,ql 22 21,qm 6 22] (.draw [dq (qf 23 1 4) 0 0 false,dq (ql 24 23) 0 0 false,dq (qm 25 6) 0 0 false,dq (qm 26 0) 0 0 false,dq (oq 27 (.nilChk (.t 26))) 0 0 false,dq (qf 28 0 27) 0 0 false,dq (ql 29 28) 0 0 false,dq (qm 30 6) 0 0 true,dq (oq 31 (.lookup 1 (.int .i64 0) (.t 29) (.t 30) false)) 0 0 true,dq (oq 32 (.build [(.int .i64 0),(.int .i64 0)] [(0,1,(.t 25)),(1,1,(.t 31))])) 0 0 true,dq (oq 33 (.lit true true 2 [(.int .i64 0),(.int .i64 0)] 1 [(0,(.t 32))])) 0 0 true,dq (oq 34 (.builtin (.append 2 true [(.int .i64 0),(.int .i64 0)] 16) [.t 24,.t 33])) 0 1 true,dq (qf 35 1 4) 1 1 true,dq (qs 1 35 34) 1 2 true]))) (.region [qa 36 19 1,qm 19 36]))
def QW:aw:=(.seq (.cond (.t 20) .skip (.exit 0)) QX)
def TY:=sr [qlt 20 19 18] QW
def FV:=sr [qL 37 2 4,qc 38 199 [.t 37],oq 39 (.extract (.t 38) 0),oq 40 (.extract (.t 38) 1),qs 2 2 39,qm 3 40] .ret
def QU:aw:=(.seq (sr [qm 12 0,oq 13 (.nilChk (.t 12)),qf 14 0 13,ql 15 14,qc 16 210 [.t 15],qc 17 209 [.t 16],qe 18 17,qi 19 0] (.block 0 (.loop TY))) FV)
def QT:=sr [qm 7 0,oq 8 (.nilChk (.t 7)),qf 9 1 8,ql 10 9,oq 11 (.build [(.int .i64 0),.nl] [(0,1,(.t 10))]),oq 4 (.new [(.int .i64 0),.nl]),qs 2 4 11] QU
def b167:=sr [oq 2 (.new [(.int .i64 0),.nl]),qi 3 0] QT
def aey:List bF:=[(.cell 2 true 2),(.tmp 3)]
theorem cf167:EF.cf 167=some ⟨41,aey,b167⟩:=by kernel_rfl
def QS:=sr [qf 3 1 1,ql 4 3,oq 5 (.mkFn 238 [] [.t 1]),qc 6 109 [.t 4,.t 5],qm 2 6] .ret
def b192:=sr [oq 1 (.box 2 (.t 0)),qb 2 false] QS
def r192:List bF:=[(.tmp 2)]
theorem cf192:EF.cf 192=some ⟨7,r192,b192⟩:=by kernel_rfl
def Qp:=sr [qf 4 1 2,ql 5 4,qf 6 0 1,ql 7 6,oq 8 (.bin .geq .num (.t 5) (.t 7)),qm 3 8] .ret
def b238:=sr [oq 2 (.box 2 (.t 0)),qb 3 false] Qp
def r238:List bF:=[(.tmp 3)]
theorem cf238:EF.cf 238=some ⟨9,r238,b238⟩:=by kernel_rfl
def QR:=sr [qf 13 1 5,ql 14 13,oq 15 (.bin .gtr .num (.t 14) (xn 100))] (.cond (.t 15) (sr [oq 16 (.build [(.int .i64 0),.nl] []),qs 2 2 16,qi 3 15] .ret) .skip)
def QQ:aw:=(.seq (.block 1 (sr [qx 11 2 7 9,qL 12 2 11,oq 5 (.new [(.int .i64 0),(.int .i64 0)]),qs 2 5 12] QR)) (.region [qa 17 9 1,qm 9 17]))
def QP:aw:=(.seq (.cond (.t 10) .skip (.exit 0)) QQ)
def TX:=sr [qlt 10 9 8] QP
def FU:=sr [qL 25 2 1,qs 2 2 25,qi 3 0] .ret
def QO:aw:=(.seq (sr [qL 22 2 1,qc 23 192 [.t 22]] (.cond (.t 23) (.region [qf 24 0 1,⟨none,(.store 1 (.t 24) (xn 0)),none⟩]) .skip)) FU)
def QN:aw:=(.seq (sr [qf 18 0 1,ql 19 18,oq 20 (.bin .gtr .num (.t 19) (xn 100))] (.cond (.t 20) (sr [oq 21 (.build [(.int .i64 0),.nl] []),qs 2 2 21,qi 3 15] .ret) .skip)) QO)
def QM:aw:=(.seq (sr [qf 6 1 1,ql 7 6,qe 8 7,qi 9 0] (.block 0 (.loop TX))) QN)
def b199:=sr [oq 1 (.box 2 (.t 0)),oq 2 (.new [(.int .i64 0),.nl]),qi 3 0] QM
def Zk:List bF:=[(.cell 2 true 2),(.tmp 3)]
theorem cf199:EF.cf 199=some ⟨26,Zk,b199⟩:=by kernel_rfl
def QL:aw:=(.seq (.block 1 (sr [qm 10 0,qm 11 3,qx 12 2 10 11,qL 13 2 12,qc 14 21 [.t 13],oq 15 (.un .not (.t 14))] (.cond (.t 15) (sr [qb 2 false] .ret) .skip))) (.region [qm 8 3,qa 9 8 1,qm 3 9]))
def TW:aw:=(.seq (sr [qm 4 3,qm 5 0,qe 6 5,qlt 7 4 6] (.cond (.t 7) .skip (.exit 0))) QL)
def QK:=sr [qb 2 true] .ret
def QJ:aw:=(.seq (sr [qi 3 0] (.block 0 (.loop TW))) QK)
def b200:=sr [qb 2 false] QJ
def r200:List bF:=[(.tmp 2)]
theorem cf200:EF.cf 200=some ⟨16,r200,b200⟩:=by kernel_rfl
def qH:aw:=(.seq (sr [qf 39 0 10,ql 40 39,oq 41 (.bin .lss .num (.t 40) (xn 0)),qm 42 2,oq 43 (.bin .eql .boolK (.t 41) (.t 42)),qm 44 43,og 45 (xm 11) 44 true,og 46 (xm 1) 44 true,og 47 (xe 46) 44 true,og 48 (.bin .lss .num (.t 45) (.t 47)) 44 true,qd 49 44 48] (.cond (.t 49) (.seq (.draw [dq (qm 51 1) 0 0 false,dq (qm 52 11) 0 0 false,dq (qx 53 2 51 52) 0 0 false,dq (qL 54 2 53) 0 0 false,dq (qf 55 1 10) 0 0 false,dq (ql 56 55) 0 0 false,dq (qc 57 243 [.t 54,.t 56]) 0 1 false,dq (qm 50 57) 1 1 false,dq (oq 58 (.extract (.t 50) 0)) 1 1 false,dq (oq 59 (.extract (.t 50) 1)) 1 2 false,dq (oq 13 (.new [(.int .i64 0),.nl])) 0 1 true,dq (qs 2 13 58) 1 2 true,dq (qm 14 59) 2 2 true]) (.seq (sr [qm 60 14,oq 61 (.bin .neq .num (.t 60) (xn 0))] (.cond (.t 61) (sr [oq 62 (.build [(.int .i64 0),.nl] []),qm 63 14,qs 2 6 62,qm 7 63] .ret) .skip)) (.region [qL 64 2 13,qs 2 12 64]))) .skip)) (.region [qL 65 2 8,qL 66 2 12,qc 67 202 [.t 65,.t 66],qs 2 8 67]))
def qG:=sr [qL 36 2 10,oq 37 (.lit true true 2 [(.int .i64 0),(.int .i64 0)] 1 [(0,(.t 36))]),oq 38 (.build [(.int .i64 0),.nl] [(1,1,(.t 37))]),oq 12 (.new [(.int .i64 0),.nl]),qs 2 12 38] qH
def qF:aw:=(.seq (sr [qm 32 2] (.cond (.t 32) (.region [qf 33 0 10,ql 34 33,oq 35 (.bin .sub .num (xn (-1)) (.t 34)),qm 11 35]) .skip)) qG)
def qE:=sr [qf 30 0 10,ql 31 30,qm 11 31] qF
def qD:aw:=(.seq (.block 1 (sr [qf 25 1 3,ql 26 25,qm 27 9,qx 28 2 26 27,qL 29 2 28,oq 10 (.new [(.int .i64 0),(.int .i64 0)]),qs 2 10 29] qE)) (.region [qm 23 9,qa 24 23 1,qm 9 24]))
def Hk:aw:=(.seq (sr [qm 18 9,qf 19 1 3,ql 20 19,qe 21 20,qlt 22 18 21] (.cond (.t 22) .skip (.exit 0))) qD)
def wE:=sr [qL 68 2 8,qs 2 6 68,qi 7 0] .ret
def FP:aw:=(.seq (sr [qi 9 0] (.block 0 (.loop Hk))) wE)
def FO:=sr [qf 15 0 3,ql 16 15,qc 17 242 [.t 16],oq 8 (.new [(.int .i64 0),.nl]),qs 2 8 17] FP
def aeY:=sr [oq 3 (.box 2 (.t 0)),oq 6 (.new [(.int .i64 0),.nl]),qi 7 0] FO
def MG:List bF:=[(.cell 6 true 2),(.tmp 7)]
theorem abD:EF.cf 201=some ⟨69,MG,aeY⟩:=by kernel_rfl
def FN:=sr [qm 116 8,qf 117 1 9,ql 118 117,oq 119 (.builtin .max [.t 116,.t 118]),qm 8 119] (.region [qf 120 1 5,ql 121 120,qL 122 2 9,oq 123 (.lit true true 2 [(.int .i64 0),(.int .i64 0)] 1 [(0,(.t 122))]),oq 124 (.builtin (.append 2 true [(.int .i64 0),(.int .i64 0)] 16) [.t 121,.t 123]),qf 125 1 5,qs 1 125 124])
def tD:aw:=(.seq (.block 2 (.seq (.draw [dq (qm 54 7) 0 0 false,dq (qf 55 1 3) 0 0 true,dq (ql 56 55) 0 0 true,dq (qe 57 56) 0 0 true,dq (oq 58 (.bin .eql .num (.t 54) (.t 57))) 0 0 true,dq (qm 59 58) 0 0 true,dq (og 60 (xm 6) 59 false) 0 0 false,dq (og 61 (xf 1 2) 59 false) 0 0 true,dq (og 62 (xl 61) 59 false) 0 0 true,dq (og 63 (xe 62) 59 false) 0 0 true,dq (og 64 (.bin .lss .num (.t 60) (.t 63)) 59 false) 0 0 true,dq (og 65 (xm 64) 59 false) 0 0 true,dq (og 66 (xf 1 2) 65 true) 0 0 false,dq (og 67 (xl 66) 65 true) 0 0 false,dq (og 68 (xm 6) 65 true) 0 0 false,dq (og 69 (xx 2 67 68) 65 true) 0 0 false,dq (og 70 (xf 0 69) 65 true) 0 0 false,dq (og 71 (xl 70) 65 true) 0 0 false,dq (og 72 (xf 1 3) 65 true) 0 0 false,dq (og 73 (xl 72) 65 true) 0 0 false,dq (og 74 (xm 7) 65 true) 0 0 true,dq (og 75 (xx 2 73 74) 65 true) 0 0 true,dq (og 76 (xf 0 75) 65 true) 0 0 true,dq (og 77 (xl 76) 65 true) 0 0 true,dq (og 78 (.bin .lss .num (.t 71) (.t 77)) 65 true) 0 0 true,dq (og 79 (.pick (.t 65) (.t 78) (.c (.bool false))) 59 false) 0 0 true,dq (qo 80 59 79) 0 0 true,dq (qm 53 80) 0 0 true]) (.cond (.t 53) (sr [qf 81 1 2,ql 82 81,qm 83 6,qx 84 2 82 83,qL 85 2 84,qs 2 9 85] (.region [qm 86 6,qa 87 86 1,qm 6 87])) (.seq (.draw [dq (qm 89 6) 0 0 false,dq (qf 90 1 2) 0 0 true,dq (ql 91 90) 0 0 true,dq (qe 92 91) 0 0 true,dq (oq 93 (.bin .eql .num (.t 89) (.t 92))) 0 0 true,dq (qm 94 93) 0 0 true,dq (og 95 (xf 1 3) 94 false) 0 0 false,dq (og 96 (xl 95) 94 false) 0 0 false,dq (og 97 (xm 7) 94 false) 0 0 false,dq (og 98 (xx 2 96 97) 94 false) 0 0 false,dq (og 99 (xf 0 98) 94 false) 0 0 false,dq (og 100 (xl 99) 94 false) 0 0 false,dq (og 101 (xf 1 2) 94 false) 0 0 false,dq (og 102 (xl 101) 94 false) 0 0 false,dq (og 103 (xm 6) 94 false) 0 0 true,dq (og 104 (xx 2 102 103) 94 false) 0 0 true,dq (og 105 (xf 0 104) 94 false) 0 0 true,dq (og 106 (xl 105) 94 false) 0 0 true,dq (og 107 (.bin .lss .num (.t 100) (.t 106)) 94 false) 0 0 true,dq (qo 108 94 107) 0 0 true,dq (qm 88 108) 0 0 true]) (.cond (.t 88) (sr [qf 109 1 3,ql 110 109,qm 111 7,qx 112 2 110 111,qL 113 2 112,qs 2 9 113] (.region [qm 114 7,qa 115 114 1,qm 7 115])) (.seq (.draw [dq (qf 29 1 2) 0 0 false,dq (ql 30 29) 0 0 false,dq (qm 31 6) 0 0 false,dq (qx 32 2 30 31) 0 0 false,dq (qf 33 0 32) 0 0 false,dq (ql 34 33) 0 0 false,dq (qf 35 1 2) 0 0 false,dq (ql 36 35) 0 0 false,dq (qm 37 6) 0 0 false,dq (qx 38 2 36 37) 0 0 false,dq (qf 39 1 38) 0 0 false,dq (ql 40 39) 0 0 false,dq (qf 41 1 3) 0 0 false,dq (ql 42 41) 0 0 false,dq (qm 43 7) 0 0 true,dq (qx 44 2 42 43) 0 0 true,dq (qf 45 1 44) 0 0 true,dq (ql 46 45) 0 0 true,dq (oq 47 (.builtin .max [.t 40,.t 46])) 0 0 true,dq (oq 48 (.build [(.int .i64 0),(.int .i64 0)] [(0,1,(.t 34)),(1,1,(.t 47))])) 0 0 true,dq (qs 2 9 48) 0 1 true]) (sr [qm 49 6,qa 50 49 1,qm 6 50] (.region [qm 51 7,qa 52 51 1,qm 7 52])))))))) FN)
def TV:aw:=(.seq (sr [qm 16 6,qf 17 1 2,ql 18 17,qe 19 18,qlt 20 16 19,qm 21 20,og 22 (xm 7) 21 false,og 23 (xf 1 3) 21 false,og 24 (xl 23) 21 false,og 25 (xe 24) 21 false,og 26 (.bin .lss .num (.t 22) (.t 25)) 21 false,qo 27 21 26] (.cond (.t 27) .skip (.exit 0))) (.block 1 (sr [oq 28 (.build [(.int .i64 0),(.int .i64 0)] []),oq 9 (.new [(.int .i64 0),(.int .i64 0)]),qs 2 9 28] tD)))
def Al:=sr [qL 137 2 5,qs 2 4 137] .ret
def wD:aw:=(.seq (sr [qf 126 1 5,ql 127 126,qe 128 127,oq 129 (.bin .gtr .num (.t 128) (xn 0)),qm 130 129,og 131 (xf 0 5) 130 true,og 132 (xl 131) 130 true,og 133 (xm 8) 130 true,og 134 (.bin .leq .num (.t 132) (.t 133)) 130 true,qd 135 130 134] (.cond (.t 135) (.region [qf 136 0 5,⟨none,(.store 1 (.t 136) (xn 0)),none⟩]) .skip)) Al)
def QI:aw:=(.seq (.block 0 (.loop TV)) wD)
def QH:=sr [qi 8 0] QI
def QG:=sr [qi 6 0,qi 7 0] QH
def QF:=sr [qf 10 0 2,ql 11 10,qf 12 0 3,ql 13 12,oq 14 (.builtin .max [.t 11,.t 13]),oq 15 (.build [(.int .i64 0),.nl] [(0,1,(.t 14))]),oq 5 (.new [(.int .i64 0),.nl]),qs 2 5 15] QG
def b202:=sr [oq 2 (.box 2 (.t 0)),oq 3 (.box 2 (.t 1)),oq 4 (.new [(.int .i64 0),.nl])] QF
def Zj:List bF:=[(.cell 4 true 2)]
theorem cf202:EF.cf 202=some ⟨138,Zj,b202⟩:=by kernel_rfl
def Qo:=sr [qm 3 0,oq 4 (.build [(.int .i64 0),.nl] [(0,1,(.t 3))]),qs 2 2 4] .ret
def b242:=sr [oq 2 (.new [(.int .i64 0),.nl])] Qo
def r242:List bF:=[(.cell 2 true 2)]
theorem cf242:EF.cf 242=some ⟨5,r242,b242⟩:=by kernel_rfl
def FL:aw:=(.seq (.block 1 (.seq (sr [qf 44 1 2,ql 45 44,qm 46 7,qx 47 2 45 46,qf 48 1 47,ql 49 48,qm 50 1,oq 51 (.bin .add .num (.t 49) (.t 50)),oq 52 (.bin .gtr .num (.t 51) (xn 100))] (.cond (.t 52) (sr [oq 53 (.build [(.int .i64 0),.nl] []),qs 2 4 53,qi 5 15] .ret) .skip)) (.draw [dq (qf 54 1 6) 0 0 false,dq (ql 55 54) 0 0 false,dq (qf 56 1 2) 0 0 false,dq (ql 57 56) 0 0 false,dq (qm 58 7) 0 0 false,dq (qx 59 2 57 58) 0 0 false,dq (qf 60 0 59) 0 0 false,dq (ql 61 60) 0 0 false,dq (qf 62 1 2) 0 0 false,dq (ql 63 62) 0 0 false,dq (qm 64 7) 0 0 false,dq (qx 65 2 63 64) 0 0 false,dq (qf 66 1 65) 0 0 false,dq (ql 67 66) 0 0 false,dq (qm 68 1) 0 0 true,dq (oq 69 (.bin .add .num (.t 67) (.t 68))) 0 0 true,dq (oq 70 (.build [(.int .i64 0),(.int .i64 0)] [(0,1,(.t 61)),(1,1,(.t 69))])) 0 0 true,dq (oq 71 (.lit true true 2 [(.int .i64 0),(.int .i64 0)] 1 [(0,(.t 70))])) 0 0 true,dq (oq 72 (.builtin (.append 2 true [(.int .i64 0),(.int .i64 0)] 16) [.t 55,.t 71])) 0 1 true,dq (qf 73 1 6) 1 1 true,dq (qs 1 73 72) 1 2 true]))) (.region [qm 42 7,qa 43 42 1,qm 7 43]))
def TS:aw:=(.seq (sr [qm 37 7,qf 38 1 2,ql 39 38,qe 40 39,qlt 41 37 40] (.cond (.t 41) .skip (.exit 0))) FL)
def Qn:=sr [qL 74 2 6,qs 2 4 74,qi 5 0] .ret
def Qm:aw:=(.seq (sr [qi 7 0] (.block 0 (.loop TS))) Qn)
def FK:aw:=(.seq (sr [qf 33 0 6,ql 34 33,oq 35 (.bin .gtr .num (.t 34) (xn 100))] (.cond (.t 35) (sr [oq 36 (.build [(.int .i64 0),.nl] []),qs 2 4 36,qi 5 15] .ret) .skip)) Qm)
def Ak:aw:=(.seq (sr [qf 19 0 2,ql 20 19,oq 21 (.bin .gtr .num (.t 20) (xn 0)),qm 22 21,og 23 (xf 1 2) 22 false,og 24 (xl 23) 22 false,og 25 (xe 24) 22 false,og 26 (.bin .eql .num (.t 25) (xn 0)) 22 false,qo 27 22 26] (.cond (.t 27) (.region [qf 28 0 2,ql 29 28,qm 30 1,oq 31 (.bin .add .num (.t 29) (.t 30)),qf 32 0 6,qs 1 32 31]) .skip)) FK)
def Aj:=sr [oq 18 (.build [(.int .i64 0),.nl] []),oq 6 (.new [(.int .i64 0),.nl]),qs 2 6 18] Ak
def Ai:aw:=(.seq (sr [qm 15 1,oq 16 (.bin .gtr .num (.t 15) (xn 100))] (.cond (.t 16) (sr [oq 17 (.build [(.int .i64 0),.nl] []),qs 2 4 17,qi 5 15] .ret) .skip)) Aj)
def Ah:aw:=(.seq (sr [qm 12 1,oq 13 (.bin .lss .num (.t 12) (xn 0))] (.cond (.t 13) (sr [oq 14 (.build [(.int .i64 0),.nl] []),qs 2 4 14,qi 5 2] .ret) .skip)) Ai)
def Ag:aw:=(.seq (sr [qL 8 2 2,qc 9 21 [.t 8],oq 10 (.un .not (.t 9))] (.cond (.t 10) (sr [oq 11 (.build [(.int .i64 0),.nl] []),qs 2 4 11,qi 5 3] .ret) .skip)) Ah)
def b243:=sr [oq 2 (.box 2 (.t 0)),oq 4 (.new [(.int .i64 0),.nl]),qi 5 0] Ag
def Zi:List bF:=[(.cell 4 true 2),(.tmp 5)]
theorem cf243:EF.cf 243=some ⟨75,Zi,b243⟩:=by kernel_rfl
def r209:List bF:=[(.tmp 2)]
def Qq:=sr [oq 3 (.mkFn 254 [] [.t 1]),qm 2 3] .ret
def b210:=sr [oq 1 (.box 1 (.t 0)),oq 2 (.mv (.c .nilf))] Qq
def r210:List bF:=[(.tmp 2)]
theorem cf210:EF.cf 210=some ⟨4,r210,b210⟩:=by kernel_rfl
