/- SolverFinishes: one visit of a bound by the reference (no condition). -/
import Derived.Test.YtnacljdablhbgaaGreatDg
namespace Go.Proofs.YtnacljdablhbgaaGreat
open Go.AG
attribute [local go_sem] dB bJ bk bS bR ca
theorem Lv.free {a:AV}{x:LL}(h:Lv a x):a.free=true:=by rw[<-oy,h.norm];exact de x
theorem Lv.bq {a:AV}{x:LL}(h:Lv a x):AV.beq a a=true:=fI h.free
structure LeL (a b:LL):Prop where
 pt:∀i o,pOf a.v i=some o->∃o',pOf b.v i=some o'/\o<=o'
 bt:btV a<=btV b
theorem LeL.refl (a:LL):LeL a a:=⟨fun _i o h=>⟨o,h,Int.le_refl _⟩,Int.le_refl _⟩
theorem LeL.trans {a b c:LL}(h:LeL a b)(k:LeL b c):LeL a c:=
 ⟨fun i o e=>by
  obtain⟨o',e',h1⟩:=h.pt i o e;obtain⟨o'',e'',h2⟩:=k.pt i o' e';exact⟨o'',e'',by omega⟩,Int.le_trans h.bt k.bt⟩
theorem LeL.left {a b:LL}(ha:VL a)(hb:VL b):LeL a (gq a b):=
 ⟨fun i o e=>by
  have:pOf (gq a b).v i=mxo (pOf a.v i) (pOf b.v i):=jb ha.srt hb.srt i;rw[this,e];cases pOf b.v i with
  |none=>exact⟨o,rfl,Int.le_refl _⟩
  |some p=>exact⟨max o p,rfl,by omega⟩,by rw[qW a b ha.c0 hb.c0];omega⟩
theorem LeL.right {a b:LL}(ha:VL a)(hb:VL b):LeL b (gq a b):=
 ⟨fun i o e=>by
  have:pOf (gq a b).v i=mxo (pOf a.v i) (pOf b.v i):=jb ha.srt hb.srt i;rw[this,e];cases pOf a.v i with
  |none=>exact⟨o,rfl,Int.le_refl _⟩
  |some p=>exact⟨max p o,rfl,by omega⟩,by rw[qW a b ha.c0 hb.c0];omega⟩
structure Okb (n:Nat)(b:LL×LL):Prop where
 v1:VL b.1
 v2:VL b.2
 s1:Sc n b.1
 s2:Sc n b.2
attribute [local go_sem] dB bJ bk bS bR ca
def cQ (b:LL×LL):AV:=.agg [wt b.1.c,.ls (b.1.v.map encV),wt b.2.c,.ls (b.2.v.map encV)]
theorem nI (b:LL×LL):(cQ b).cells.length=4:=rfl
def isLs (vals:List LL)(a:AV):Prop:=∃es:List AV,a=.ls es/\es.length=vals.length/\∀(i:Nat) a x,es[i]?=some a->vals[i]?=some x->Lv a x
theorem VS.frz {kV:Nat}{vals:List LL}{h:AH}(s:VS kV vals h){fb:Nat}(hf:fb<=kV)(m:Nat):isLs vals (AG.frz (m+3) h fb (.row kV 0 2 0 vals.length)):=by
 obtain⟨⟨es,e1,e2,e3,e4⟩,lt⟩:=s;have o:Own kV 2 true h (.row kV 0 2 0 vals.length) es:=⟨e3,.inr ⟨kV,0,by rw[e2],e1,lt,Fv _⟩⟩;have hl:∀x∈es,AG.frz (m+2) h fb x=x:=by
  intro x hx;obtain⟨i,hi⟩:=List.mem_iff_getElem?.1 hx;have hil:=(wah.1 hi).1;obtain⟨V,rfl,_,_,_,hfz,_⟩:=(e4 i x _ hi (wO (by omega))).ex;rw[cw];simp only[List.map_cons,List.map_nil,bY,hfz]
 rcases own_frzB (m:=m+2) o hf (fun e=>by cases e) hl with⟨e,_⟩|e
 ·cases e
 ·exact⟨es,e,e2,e4⟩
