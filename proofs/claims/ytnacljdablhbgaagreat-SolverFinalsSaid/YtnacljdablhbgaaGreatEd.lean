/- SolverFinishes: Check of the program accepts valid bounds in scope (no condition). -/
import Derived.Test.YtnacljdablhbgaaGreatEc
namespace Go.Proofs.YtnacljdablhbgaaGreat
open Go.AG
attribute [local go_sem] dB bJ bk bS bR ca
attribute [local go_sem] dB bJ bk bS bR ca
structure MV where
 ty:T
 known:Bool
 val:T
 cls:Bool
structure QV where
 ctx:List T
 lt:T
 rt:T
 sub:Bool
structure SV where
 ms:List MV
 qs:List QV
 bs:List (LL×LL)
 n:Int
def cD (m:MV):AV:=.agg [wt m.ty.kind,wt m.ty.i,.str m.ty.name,.ls (m.ty.L.map aK),.ls (m.ty.K.map enc),.bool m.known,wt m.val.kind,wt m.val.i,.str m.val.name,.ls (m.val.L.map aK),.ls (m.val.K.map enc),.bool m.cls]
def gC (q:QV):AV:=.agg [.ls (q.ctx.map enc),wt q.lt.kind,wt q.lt.i,.str q.lt.name,.ls (q.lt.L.map aK),.ls (q.lt.K.map enc),wt q.rt.kind,wt q.rt.i,.str q.rt.name,.ls (q.rt.L.map aK),.ls (q.rt.K.map enc),.bool q.sub]
def od (s:SV):AV:=.agg [.ls (s.ms.map cD),.ls (s.qs.map gC),.ls (s.bs.map cQ),wt s.n]
theorem ie (m:MV):(cD m).cells.length=12:=rfl
theorem uC (m:QV):(gC m).cells.length=12:=rfl
theorem cM (b:Bool)(h:AH):dH (.vptr (.bool b)) h false 1=some (.bool b):=pj rfl
attribute [local go_sem] cM
def unk (ms:List MV):Bool:=ms.any fun m=>!m.known
def kn (ms:List MV):Nat:=ms.countP fun m=>m.known
theorem rb (m:MV)(h:AH):eM (.vptr (cD m)) h 5 1 false=.val (.vptr (.bool m.known)) h:=(rfl)
theorem sL (m:MV):(cD m).free=true:=by simp[cD,AV.free,AV.jp,ig,eE]
theorem bq_ms (l:List MV):AV.beq (.ls (l.map cD)) (.ls (l.map cD))=true:=fI (by rw[AV.free];exact cL sL l)
