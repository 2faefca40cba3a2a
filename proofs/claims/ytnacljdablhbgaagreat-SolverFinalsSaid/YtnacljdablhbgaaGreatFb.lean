/- SolverFinishes: awake, run in the kernel (no condition). -/
import Derived.Test.YtnacljdablhbgaaGreatFa
namespace Go.Proofs.YtnacljdablhbgaaGreat
open Go.AG
def NB (r:Option (bI×RC×AH)):Option (bI×RC):=match r with
 |some (o,rc,_)=>some (o,rc)
 |none=>none
noncomputable def E2:AG.Env:=Fm Tryz.prog tx (fun _=>false)
theorem ev13:NB (evCall E2 100000 (.fn 13 [] []) [] .no bg)=some (.ret (.bool true),.no):=by kernel_rfl
theorem hE2:oK CI E2:=Ay Tryz.prog tx _ _ (by kernel_rfl)
theorem A13:∃o,o=.ret (.bool true)/\Ans CI (.fn 13 [] []) (a0 ()) o:=by
 have e:=ev13;have hc:bM CI (evCall E2 100000):=Lg hE2 100000;generalize evCall E2 100000=call at e hc;cases hv:call (.fn 13 [] []) [] .no bg with
 |none=>rw[hv]at e;cases e
 |some r=>
  obtain⟨o,rc,h'⟩:=r;rw[hv]at e;injection e with e;injection e with e1 e2;subst e1 e2;exact⟨_,rfl,by simp[AV.free,AV.jp],by simp[a0,AV.jp],by simp[bI.free,AV.free],_,h',_,hc,hv,by simp[bI.norm,AV.norm]⟩
noncomputable def KZ:aG:=fun f a rc h=>match GZ f a rc h with
 |some r=>some r
 |none=>kL f a rc h
theorem MA:bM CI KZ:=by
 intro f args rc h out rc' h' q;unfold KZ at q;cases hk:GZ f args rc h with
 |some r=>rw[hk]at q;exact fL.1 f args rc h out rc' h' (by rw[hk];exact q)
 |none=>rw[hk]at q;exact adI f args rc h out rc' h' q
theorem MB {f:AV}{a:List AV}{rc:RC}{h:AH}{r:bI×RC×AH}(e:GZ f a rc h=some r):KZ f a rc h=some r:=by simp only[KZ,e]
theorem Ot {f:FuncId}{c a:List AV}{rc:RC}{h:AH}(hf:f≠209):kL (.fn f [] c) a rc h=none:=by
 unfold kL;split
 ·rename_i e;injection e with e1;exact absurd e1 hf
 ·rfl
theorem Xr {k:Nat}{a:List AV}{rc:RC}{h:AH}: kL (.yld k) a rc h=none:=by
 unfold kL;split
 ·rename_i e;cases e
 ·rfl
theorem zX {f:FuncId}{c a:List AV}{rc:RC}{h:AH}(hf:f ∉ oT.map AG.cF.fid)(h2:f≠209):KZ (.fn f [] c) a rc h=none:=by
 simp only[KZ,Ab hf,Ot h2]
theorem rW:jR KZ:=by
 refine⟨fun f hf c a rc h=>?_,fun l a rc h=>?_⟩
 ·have hd:∀f∈acm,f ∉ oT.map AG.cF.fid/\f≠209:=by rw[gf];decide
  exact zX (hd f hf).1 (hd f hf).2
 ·simp only[KZ,aeo,Xr]
theorem Fp:KV KZ:=⟨fun a x h ha hl=>MB (aci.r135 a x h ha hl),fun a x h ha hl=>MB (aci.r21 a x h ha hl)⟩
theorem KZ_KS:KS KZ:=⟨fun H kb km L h1 h2 h3 h4 h5 h6=>by
 have:GZ (.fn 209 [] []) [.fn 254 [] [.ptr kb 0 0]] .no H=none:=Ab (by rw[gf];decide);simp only[KZ,this];exact KU h1 h2 h4 h5 h6⟩
attribute [local go_sem] dB bJ bk bS bR ca cM
