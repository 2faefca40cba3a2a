/- UnifyInverts: slices.Sort of the library at []int: the contract of the shelf's, over this program (written by a tool of the kit; no condition). -/
import Derived.Shelf.Sort.Plain
import Derived.Test.YtnacljdablhbgaaGreatProg
import Derived.KernelRfl
import Derived.Test.YtnacljdablhbgaaGreatEe
import Derived.Shelf.SlIterI.Nil
import Derived.Shelf.Slices.In.SortNone
namespace Go.Proofs.YtnacljdablhbgaaGreat
open Go.Shelf Go.Proofs
def Bo:Go.Shelf.Ren:=⟨fun|189=>82|125=>126|257=>125|128=>188|129=>189|294=>179|295=>180|296=>181|297=>182|298=>183|299=>184|216=>185|300=>186|301=>187|328=>231|329=>232|330=>233|331=>234|332=>235|215=>236|343=>277|n=>n,fun|28=>22|3=>3|46=>197|0=>0|51=>245|53=>247|4=>4|183=>237|182=>236|131=>242|5=>5|9=>9|218=>279|222=>283|228=>322|229=>90|n=>n,fun|n=>n⟩
theorem zD:Go.Proofs.Lays.n189 Tryz.prog Bo where
 mixed:=by kernel_rfl
 f125:=Tryz.func126.trans (congrArg some (by kernel_rfl))
 f128:=Tryz.func188.trans (congrArg some (by kernel_rfl))
 f129:=Tryz.func189.trans (congrArg some (by kernel_rfl))
 f189:=Tryz.func82.trans (congrArg some (by kernel_rfl))
 f215:=Tryz.func236.trans (congrArg some (by kernel_rfl))
 f216:=Tryz.func185.trans (congrArg some (by kernel_rfl))
 f257:=Tryz.func125.trans (congrArg some (by kernel_rfl))
 f294:=Tryz.func179.trans (congrArg some (by kernel_rfl))
 f295:=Tryz.func180.trans (congrArg some (by kernel_rfl))
 f296:=Tryz.func181.trans (congrArg some (by kernel_rfl))
 f297:=Tryz.func182.trans (congrArg some (by kernel_rfl))
 f298:=Tryz.func183.trans (congrArg some (by kernel_rfl))
 f299:=Tryz.func184.trans (congrArg some (by kernel_rfl))
 f300:=Tryz.func186.trans (congrArg some (by kernel_rfl))
 f301:=Tryz.func187.trans (congrArg some (by kernel_rfl))
 f328:=Tryz.func231.trans (congrArg some (by kernel_rfl))
 f329:=Tryz.func232.trans (congrArg some (by kernel_rfl))
 f330:=Tryz.func233.trans (congrArg some (by kernel_rfl))
 f331:=Tryz.func234.trans (congrArg some (by kernel_rfl))
 f332:=Tryz.func235.trans (congrArg some (by kernel_rfl))
 f343:=Tryz.func277.trans (congrArg some (by kernel_rfl))
 t0:=Tryz.underlying0
 a0:=Tryz.isAgg0
 z0:=Tryz.sizeOf0
 v0:=Tryz.zeroValue0
 t3:=Tryz.underlying3
 a3:=Tryz.isAgg3
 z3:=Tryz.sizeOf3
 v3:=Tryz.zeroValue3
 t4:=Tryz.underlying4
 a4:=Tryz.isAgg4
 z4:=Tryz.sizeOf4
 v4:=Tryz.zeroValue4
 t5:=Tryz.underlying5
 a5:=Tryz.isAgg5
 z5:=Tryz.sizeOf5
 v5:=Tryz.zeroValue5
 t9:=Tryz.underlying9
 a9:=Tryz.isAgg9
 z9:=Tryz.sizeOf9
 v9:=Tryz.zeroValue9
 t28:=Tryz.underlying22
 a28:=Tryz.isAgg22
 z28:=Tryz.sizeOf22
 v28:=Tryz.zeroValue22
 t46:=Tryz.underlying197
 a46:=Tryz.isAgg197
 z46:=Tryz.sizeOf197
 v46:=Tryz.zeroValue197
 t51:=Tryz.underlying245
 a51:=Tryz.isAgg245
 z51:=Tryz.sizeOf245
 v51:=Tryz.zeroValue245
 t53:=Tryz.underlying247
 a53:=Tryz.isAgg247
 z53:=Tryz.sizeOf247
 v53:=Tryz.zeroValue247
 t131:=Tryz.underlying242
 a131:=Tryz.isAgg242
 z131:=Tryz.sizeOf242
 v131:=Tryz.zeroValue242
 t182:=Tryz.underlying236
 a182:=Tryz.isAgg236
 z182:=Tryz.sizeOf236
 v182:=Tryz.zeroValue236
 t183:=Tryz.underlying237
 a183:=Tryz.isAgg237
 z183:=Tryz.sizeOf237
 v183:=Tryz.zeroValue237
 t218:=Tryz.underlying279
 a218:=Tryz.isAgg279
 z218:=Tryz.sizeOf279
 v218:=Tryz.zeroValue279
 t222:=Tryz.underlying283
 a222:=Tryz.isAgg283
 z222:=Tryz.sizeOf283
 v222:=Tryz.zeroValue283
 t228:=Tryz.underlying322
 a228:=Tryz.isAgg322
 z228:=Tryz.sizeOf322
 v228:=Tryz.zeroValue322
 t229:=Tryz.underlying90
 a229:=Tryz.isAgg90
 z229:=Tryz.sizeOf90
 v229:=Tryz.zeroValue90
open Go.Sort Go.RowKit in
theorem acV (blk off cap:Nat)(zs:List Int)(w:World)(hH:Holds (Value.int .i64) w blk off zs.toArray)(hblk:blk<w.heap.size)(hsz:zs.length<4611686018427387904):
  Calls Tryz.prog 82 #[.slice (some ⟨blk,off,none⟩) zs.length cap] w fun e w'=>
   e=.returned (.tuple #[])/\∃n os,w'=grow (putRow (Value.int .i64) (Sort.ahead w n) blk off (zs.mergeSort fun x y=>decide (x<=y)).toArray) os:=Any.slices_Sort_int zD blk off cap zs w hH hblk hsz
end Go.Proofs.YtnacljdablhbgaaGreat
namespace Go.Proofs.YtnacljdablhbgaaGreat
open Go.Shelf Go.Proofs
def ng:Go.Shelf.Ren:=⟨fun|6=>209|8=>253|9=>82|11=>281|13=>126|12=>125|23=>188|24=>189|14=>179|15=>180|16=>181|17=>182|18=>183|19=>184|20=>185|21=>186|22=>187|25=>231|26=>232|27=>233|28=>234|29=>235|30=>236|31=>277|n=>n,fun|26=>3|28=>262|24=>22|0=>0|3=>3|37=>197|48=>245|50=>247|4=>4|40=>237|39=>236|45=>242|5=>5|9=>9|51=>279|55=>283|57=>322|58=>90|33=>251|n=>n,fun|n=>n⟩
theorem Ed:Go.Proofs.SlLaysZI.n6 Tryz.prog ng where
 mixed:=by kernel_rfl
 f6:=⟨Tryz.f209.name,by kernel_rfl,Tryz.func209.trans (congrArg some (by kernel_rfl))⟩
 f8:=⟨Tryz.f253.name,by kernel_rfl,Tryz.func253.trans (congrArg some (by kernel_rfl))⟩
 f11:=⟨Tryz.f281.name,by kernel_rfl,Tryz.func281.trans (congrArg some (by kernel_rfl))⟩
 t0:=Tryz.underlying0
 a0:=Tryz.isAgg0
 z0:=Tryz.sizeOf0
 v0:=Tryz.zeroValue0
 t24:=Tryz.underlying22
 a24:=Tryz.isAgg22
 z24:=Tryz.sizeOf22
 v24:=Tryz.zeroValue22
 t26:=Tryz.underlying3
 a26:=Tryz.isAgg3
 z26:=Tryz.sizeOf3
 v26:=Tryz.zeroValue3
 t28:=Tryz.underlying262
 a28:=Tryz.isAgg262
 z28:=Tryz.sizeOf262
 v28:=Tryz.zeroValue262
 i26:=by kernel_rfl
def qp:Go.Shelf.Ren:=⟨fun|10=>254|n=>n,fun|33=>251|23=>228|0=>0|4=>4|26=>3|3=>3|n=>n,fun|n=>n⟩
theorem Oo:Go.Proofs.SlLaysZI.n10 Tryz.prog qp where
 mixed:=by kernel_rfl
 f10:=⟨Tryz.f254.name,by kernel_rfl,Tryz.func254.trans (congrArg some (by kernel_rfl))⟩
 t0:=Tryz.underlying0
 a0:=Tryz.isAgg0
 z0:=Tryz.sizeOf0
 v0:=Tryz.zeroValue0
 t4:=Tryz.underlying4
 a4:=Tryz.isAgg4
 z4:=Tryz.sizeOf4
 v4:=Tryz.zeroValue4
 t23:=Tryz.underlying228
 a23:=Tryz.isAgg228
 z23:=Tryz.sizeOf228
 v23:=Tryz.zeroValue228
 t26:=Tryz.underlying3
 a26:=Tryz.isAgg3
 z26:=Tryz.sizeOf3
 v26:=Tryz.zeroValue3
 t33:=Tryz.underlying251
 a33:=Tryz.isAgg251
 z33:=Tryz.sizeOf251
 v33:=Tryz.zeroValue251
end Go.Proofs.YtnacljdablhbgaaGreat
namespace Go.AG
theorem Sim.wider {C:Cx}{g:Gh}{U:Nat->Option (List AV)}{h:AH}{w w':World}(s:Sim C g U h w)(hh:∀b,b<w.heap.size->w'.heap[b]?=w.heap[b]?)(hs:w.heap.size<=w'.heap.size)
  (ht:w'.tape=w.tape) (ho:w'.os=w.os) (hu:w'.output=w.output):Sim C g U h w':=by
 constructor
 ·intro b o v e;rw[lU (hh b (s.frz_lt e))];exact s.frz b o v e
 ·intro k o e u;obtain⟨l,r1,r2,r3⟩:=s.obj k o e u;exact⟨l,r1,r2,r3.kw (.refl g) (hh _ r3.block_lt) (fun _ _ q=>q) (fun _ _ q=>q)⟩
 ·exact s.lt
 ·exact s.unb
 ·exact s.rlt
 ·exact s.sep
 ·intro b hb;rw[hh b (Nat.lt_of_lt_of_le hb s.sz)];exact s.old b hb
 ·exact Nat.le_trans s.sz hs
 ·rw[ht];exact s.tape
 ·rw[ho];exact s.os
 ·rw[hu];exact s.output
theorem Sim.more {C:Cx}{g:Gh}{U:Nat->Option (List AV)}{h:AH}{w w':World}(s:Sim C g U h w){gb:Nat}(hgb:w.heap.size<=gb){F:Nat->Option Value}(hF:∀o v,F o=some v->w'.cell? ⟨gb,o,none⟩=some v)
  (hh:∀b,b<w.heap.size->w'.heap[b]?=w.heap[b]?) (hs:w.heap.size<=w'.heap.size) (ht:w'.tape=w.tape) (ho:w'.os=w.os) (hu:w'.output=w.output) :
  Ext g {g with F:=fun b o=>if b=gb then F o else g.F b o}/\Sim C {g with F:=fun b o=>if b=gb then F o else g.F b o} U h w':=by
 have hne:∀b o v,g.F b o=some v->b≠gb:=fun b o v e=>by have:=s.frz_lt e;omega
 have ex:Ext g {g with F:=fun b o=>if b=gb then F o else g.F b o}:=by
  refine⟨fun b o v e=>?_,fun _ _ _ h=>h,rfl,fun b o v hb e=>?_⟩
  ·show(if b=gb then F o else g.F b o)=some v;rw[wad (hne b o v e)];exact e
  ·have hb':=s.sz;have e:(if b=gb then F o else g.F b o)=some v:=e;rw[wad (by omega)]at e;exact e
 refine⟨ex,?_⟩;constructor
 ·intro b o v e;have e2:(if b=gb then F o else g.F b o)=some v:=e;by_cases hb:b=gb
  ·rw[wae hb]at e2;rw[hb];exact hF o v e2
  ·rw[wad hb]at e2;rw[lU (hh b (s.frz_lt e2))];exact s.frz b o v e2
 ·intro k o e u;obtain⟨l,r1,r2,r3⟩:=s.obj k o e u;have hlt:=r3.block_lt;refine⟨l,r1,r2,r3.kw ex (hh _ hlt) (fun i v q=>?_) (fun _ _ q=>q)⟩;have q:(if l.block=gb then F i else g.F l.block i)=some v:=q;rw[wad (by omega)]at q;exact q
 ·exact s.lt
 ·exact s.unb
 ·exact s.rlt
 ·exact s.sep
 ·intro b hb;rw[hh b (Nat.lt_of_lt_of_le hb s.sz)];exact s.old b hb
 ·exact Nat.le_trans s.sz hs
 ·rw[ht];exact s.tape
 ·rw[ho];exact s.os
 ·rw[hu];exact s.output
end Go.AG
namespace Go.Proofs.YtnacljdablhbgaaGreat
open Go.AG Go.Proofs
theorem XN (args:Array Value)(w:World):(callFunc 82 args).run Tryz.prog w=.ok (.enter 82 args) w:=enters_of (f:=82) zD.f189 (by kernel_rfl) rfl args w
theorem OG (args:Array Value)(w:World):(callFunc 209 args).run Tryz.prog w=.ok (.enter 209 args) w:=enters_of (f:=209) Tryz.func209 (by kernel_rfl) rfl args w
theorem OF (args:Array Value)(w:World):(callFunc 254 args).run Tryz.prog w=.ok (.enter 254 args) w:=enters_of (f:=254) Tryz.func254 (by kernel_rfl) rfl args w
theorem ukey:Tryz.prog.underlying 3=some (.int .i64):=by kernel_rfl
theorem Wo (m:Nat):AnyZI.SortsIn Tryz.prog ng Fence.wide m:=
 ⟨fun blk off cap ss W hH hblk hsz=>callsIn_wide.2 (acV blk off cap ss W hH hblk hsz),fun p cap W=>callsIn_wide.2 (Any.slices_Sort_int_none zD p cap W)⟩
theorem yq {g:Gh}: ∀{L:Es} {es:List MapEntry},lI g (mp L) es->es.map (·.key)=L.map fun e=>Value.int .i64 e.1
 |[],[],_=>rfl
 |[],_::_,h=>by cases h
 |_::_,[],h=>by cases h
 |e::L,x::es,h=>by
  cases h with
  |cons hk hv t=>rw[List.map_cons,List.map_cons,yq t,hk.int_inv]
def Rk (_:Value):Option (DataW Unit×List MemPlace):=some (.lit (.bool true),[])
theorem wf_kr {k:Int}(h : -65536<=k/\k<=7):(Lit.int .i64 k).wf=true:=by
 have e1:IntKind.i64.min=-9223372036854775808:=by decide
 have e2:IntKind.i64.max=9223372036854775807:=by decide
 show(decide (IntKind.i64.min<=k)&&decide (k<=IntKind.i64.max))=true;rw[e1,e2,HE (by omega),HE (by omega)];rfl
def acx:Value->Int
 |.int _ k=>k
 |_=>0
theorem WL {g:Gh}{w:World}{b clock:Nat}{mes:Array MapEntry}{L:Es}(hb:w.heap[b]?=some (.map mes clock))(he:lI g (mp L) mes.toList)(hB:MP mes clock)(hl:L.length<30000)(hn:(L.map (·.1)).Nodup)(hr:KR L):
  ∃D0:DataW Unit,w.ownsMap Tryz.prog 3 Rk b L.length D0/\(intKeys D0).Perm (L.map (·.1))/\Maps.size D0=L.length:=by
 have hk:=yq he;have hlen:mes.size=L.length:=by have:=congrArg List.length hk;simpa using this
 have hkey:∀x∈mes.toList,∃k:Int,x.key=.int .i64 k/\(-65536<=k/\k<=7):=by
  intro x hx;have:x.key∈L.map fun e=>Value.int .i64 e.1:=by rw[<-hk];exact List.mem_map_of_mem hx
  obtain⟨e,he,hq⟩:=List.mem_map.1 this;exact⟨e.1,hq.symm,hr _ (List.mem_map_of_mem he)⟩
 have hrd:∀x∈mes.toList,∀k,x.key=.int .i64 k->WideElems.rd Tryz.prog 3 Rk x=some (.int .i64 k,.lit (.bool true)):=by
  intro x hx k hq;obtain⟨k',hq',hr'⟩:=hkey x hx;rw[hq]at hq';cases hq';unfold WideElems.rd;rw[hq,Maps.keyOf_int_mk ukey (wf_kr hr')];rfl
 refine⟨_,⟨mes,clock,hb,⟨?_,⟨hB.1,hB.2,?_⟩,fun x hx=>?_⟩,by omega,rfl⟩,?_,?_⟩
 ·rw[hlen];have:(30000:Nat)<=maxLen:=by decide
  omega
 ·rw[hk];have:(L.map fun e=>Value.int .i64 e.1)=(L.map (·.1)).map (Value.int .i64):=by rw[List.map_map];rfl
  rw[this];exact List.Pairwise.map _ (fun a b hne e=>hne (by cases e;rfl)) hn
 ·obtain⟨k,hq,_⟩:=hkey x hx;exact⟨_,hrd x hx k hq⟩
 ·have e1:∀x∈mes.toList,Go.intOf (WideElems.rg Tryz.prog 3 Rk x).1=acx x.key:=by
   intro x hx;obtain⟨k,hq,_⟩:=hkey x hx;have e3:WideElems.rg Tryz.prog 3 Rk x=((Lit.int .i64 k,DataW.lit (.bool true)):Lit×DataW Unit):=WideElems.rg_of (hrd x hx k hq);have e4:(WideElems.rg Tryz.prog 3 Rk x).1=Lit.int .i64 k:=congrArg Prod.fst e3;exact(congrArg Go.intOf e4).trans (congrArg acx hq).symm
  have e5:(mes.toList.map (·.key)).map acx=L.map (·.1):=by rw[hk,List.map_map];rfl
  generalize WideElems.rg Tryz.prog 3 Rk=rgf at e1 ⊢;show(((mes.toList.map rgf).foldr DataW.insert []).map fun p=>Go.intOf p.1).Perm _;refine((WideShapes.sorted_perm _).map _).trans ?_;have e2:(mes.toList.map rgf).map (fun p=>Go.intOf p.1)=(mes.toList.map (·.key)).map acx:=by
   rw[List.map_map,List.map_map];exact List.map_congr_left fun x hx=>e1 x hx
  rw[e2,e5]
 ·show((mes.toList.map (WideElems.rg Tryz.prog 3 Rk)).foldr DataW.insert []).length=_;rw[(WideShapes.sorted_perm _).length_eq,List.length_map];simpa using hlen
theorem JN {g:Gh}{w:World}{b bm clock:Nat}{mes:Array MapEntry}{L:Es}(hm:w.cell? ⟨bm,0,none⟩=some (.map (some b)))(hb:w.heap[b]?=some (.map mes clock))(he:lI g (mp L) mes.toList)(hB:MP mes clock)(hl:L.length<30000)(hn:(L.map (·.1)).Nodup)(hr:KR L):
  Calls Tryz.prog 209 #[.func (.func 254) #[] #[.pointer (some ⟨bm,0,none⟩)]] w fun e w'=>∃v,e=.returned v/\w'.ownsRow w.heap.size 3 1 v L.length ((dg L).map fun z=>Value.int .i64 z)/\RowKit.Below w.heap.size w w':=by
 obtain⟨D0,h1,h2,h3⟩:=WL hb he hB hl hn hr;have hBm:bm<w.heap.size:=block_lt_of_cell hm;have hseq:SeqGives Fence.wide 2 Tryz.prog 254 #[.pointer (some ⟨bm,0,none⟩)] encZ (fun ss=>ss.Perm (intKeys D0)) (Maps.size D0) w:=
  AnyZI.keys_gives (ρ:=qp) Oo Fence.wide _ trivial rfl (by omega) bm b L.length D0 w hBm hm h1
 have hmax:Maps.size D0<=maxLen:=by
                     rw[h3];have:(30000:Nat)<=maxLen:=by decide
                     omega
 have cS:=AnyZI.sorted_in Ed Fence.wide 5 trivial trivial trivial trivial rfl (by omega) (Wo _) XN 254 #[.pointer (some ⟨bm,0,none⟩)] trivial OF _ _ hmax (by rw[h3];omega) w hseq;refine(callsIn_wide.1 cS).mono ?_;rintro e w' ⟨v,ss,rfl,hS,hrow,_,hbel⟩;have hp:ss.Perm (L.map (·.1)):=hS.trans h2;have hlen:ss.length=L.length:=by rw[hp.length_eq,waa]
 have hsort:ss.mergeSort (fun x y=>decide (x<=y))=dg L:=mergeSort_of_perm_i hp;refine⟨v,rfl,?_,hbel⟩;rw[hlen,hsort]at hrow;exact hrow
end Go.Proofs.YtnacljdablhbgaaGreat
namespace Go.Proofs.YtnacljdablhbgaaGreat
open Go.AG Go.Proofs
open Classical in
noncomputable def kL:aG:=fun f a rc h=>match f,a,rc with
 |.fn 209 [] [],[.fn 254 [] [.ptr kb 0 0]],.no=>
  if hx:∃L:Es,(∃km,h.get kb=some (.box [.map km])/\h.get km=some (.map (mp L)))/\L.length<30000/\(L.map (·.1)).Nodup/\KR L then some (.ret (.ls ((dg hx.choose).map AG.dF)),.no,h) else none
 |_,_,_=>none
theorem Ty:∀{L M:Es},mp L=mp M->L=M
 |[],[],_=>rfl
 |[],_::_,h=>by cases h
 |_::_,[],h=>by cases h
 |(a,b)::L,(c,d)::M,h=>by
  simp only[mp,List.map_cons,List.cons.injEq,Prod.mk.injEq,AV.int.injEq,true_and]at h;obtain⟨⟨rfl,rfl⟩,h⟩:=h;rw[Ty h]
theorem KU {kb km:Nat}{L:Es}{h:AH}(h1:h.get kb=some (.box [.map km]))(h2:h.get km=some (.map (mp L)))(h3:L.length<30000)(h4:(L.map (·.1)).Nodup)(h5:KR L):
  kL (.fn 209 [] []) [.fn 254 [] [.ptr kb 0 0]] .no h=some (.ret (.ls ((dg L).map AG.dF)),.no,h):=by
 have hx:∃L:Es,(∃km,h.get kb=some (.box [.map km])/\h.get km=some (.map (mp L)))/\L.length<30000/\(L.map (·.1)).Nodup/\KR L:=⟨L,⟨km,h1,h2⟩,h3,h4,h5⟩
 have e:kL (.fn 209 [] []) [.fn 254 [] [.ptr kb 0 0]] .no h=some (.ret (.ls ((dg hx.choose).map AG.dF)),.no,h):=dif_pos hx;have:hx.choose=L:=by
  obtain⟨⟨km',q1,q2⟩,_⟩:=hx.choose_spec;rw[h1]at q1;injection q1 with q1;injection q1 with q1;injection q1 with q1;injection q1 with q1;subst q1;rw[h2]at q2;injection q2 with q2;injection q2 with q2;exact(Ty q2).symm
 rw[e,this]
theorem Xq {us:Array Value}{w:World}{c0:Frame}{rest:List Frame}{Rr:Value->World->Prop}(hc:Calls Tryz.prog 209 us w fun e w1=>∃v,e=.returned v/\Rr v w1):
  ∃v w1,Rr v w1/\Steps Tryz.prog (lone (Frame.enter Tryz.prog 209 us .normal) (c0::rest) w) (lone (c0.finish v) rest w1):=by
 obtain⟨e,w',fr,⟨v,rfl,hR⟩,hcomes,hfn,hleave⟩:=hc (c0::rest);exact⟨v,w',hR,Steps.trans hcomes (.one (step_leave_returned hleave))⟩
theorem uI {g:Gh}: ∀(zs:List Int),aR g (zs.map AG.dF) (zs.map (Value.int .i64))
 |[]=>.nil
 |_z::zs=>.cons (.int _ _) (uI zs)
theorem xV (zs:List Int):flat (zs.map AG.dF)=zs.map AG.dF:=by
 induction zs with
 |nil=>rfl
 |cons z zs ih=>rw[List.map_cons,bO,ih];rfl
theorem adI:bM CI kL:=by
 intro f args rc h out rc' h' q g U w fv us K kind s hf ha hr hK;unfold kL at q;split at q
 ·rename_i kb;split at q
  ·rename_i hx;cases q;obtain⟨⟨km,q1,q2⟩,q3,q4,q5⟩:=hx.choose_spec;generalize hx.choose=L at q1 q2 q3 q4 q5 ⊢;obtain⟨x,y,hx1,hy1,rfl⟩:=hf.fn_inv;cases hx1;cases hy1;cases ha with
   |@cons _ u _ _ hu ht=>
    cases ht;obtain⟨x,y,hx1,hy1,rfl⟩:=hu.fn_inv;cases hx1;cases hy1 with
    |@cons _ u2 _ _ hu2 ht2=>
     cases ht2;obtain⟨l,hl,rfl⟩:=hu2.ptr_inv;have hkU:=s.live hl;obtain⟨l',r1,r2,r3⟩:=s.obj kb _ q1 hkU;have r1:g.ρ kb 0=some l':=r1;rw[hl]at r1;cases r1;obtain⟨hb0,bus,bt,be,bv,_,_⟩:=r3;obtain⟨u,ebus⟩:∃u,bus.toList=[u]/\bu g (.map km) u:=by
      cases hbl:bus.toList with
      |nil=>rw[hbl]at bv;cases bv
      |cons u rest=>
       rw[hbl]at bv;cases bv with
       |cons hu3 ht3=>cases ht3;exact⟨u,rfl,hu3⟩
     obtain⟨ebus,hum⟩:=ebus;obtain⟨lm,hlm,rfl⟩:=hum.map_inv;have hmU:=s.live hlm;obtain⟨lm',m1,m2,m3⟩:=s.obj km _ q2 hmU;have m1:g.ρ km 0=some lm':=m1;rw[hlm]at m1;cases m1;obtain⟨mes,clock,m4,m5,m6⟩:=m3;have hcell:w.cell? ⟨l.block,0,none⟩=some (.map (some lm.block)):=by
      rw[cell_of_row _ _ _ bus bt (0,0) be];have:bus.toList[0]?=some (Value.map (some lm.block)):=by rw[ebus];rfl
      simpa using this
     have hk:kind=.normal:=hr;subst hk;obtain⟨v,w1,⟨hrow,hbel⟩,hst⟩:=Xq (c0:=K.c0) (rest:=K.rest) (JN hcell m4 m5 m6 q3 q4 q5);obtain⟨b1,b2,b3,b4,b5⟩:=hbel;obtain⟨hlen,hcase⟩:=hrow;have hks:(dg L).length=L.length:=by simpa using hlen
     have hread:∃g',Ext g g'/\Sim CI g' U h w1/\bu g' (.ls ((dg L).map AG.dF)) v:=by
      rcases hcase with⟨rfl,hz⟩|⟨gb,cap,cur,rfl,hgb,e1,e2,e3,e4,e5⟩
      ·have:dg L=[]:=List.eq_nil_of_length_eq_zero (by omega);rw[this];exact⟨g,.refl g,s.wider b5 b4 b2 b1 b3,.lst0⟩
      ·have hF:∀o v,(if o<L.length then cur[o]? else none)=some v->w1.cell? ⟨gb,o,none⟩=some v:=by
        intro o v hv;rw[cell_of_row _ _ _ cur 3 (0,0) e1];by_cases ho:o<L.length
        ·rw[wae ho]at hv;exact hv
        ·rw[wad ho]at hv;cases hv
       obtain⟨ex,s'⟩:=s.more hgb (F:=fun o=>if o<L.length then cur[o]? else none) hF b5 b4 b2 b1 b3;refine⟨_,ex,s',?_⟩;have hget:∀i u,((dg L).map fun z=>Value.int .i64 z)[i]?=some u->cur[i]?=some u/\i<L.length:=by
        intro i u hu;have hi:i<L.length:=by
         have:=(wah.1 hu).1;simpa [hks] using this
        rw[<-e5,List.getElem?_take,wae (by omega)]at hu;exact⟨by simpa using hu,hi⟩
       have hC:fm {g with F:=fun b o=>if b=gb then (if o<L.length then cur[o]? else none) else g.F b o} gb 0 (flat ((dg L).map AG.dF)):=by
        rw[xV];refine fm.mk (uI _) fun i u hu=>?_
        obtain⟨c1,c2⟩:=hget i u hu;show(if gb=gb then (if 0+i<L.length then cur[0+i]? else none) else g.F gb (0+i))=some u;rw[wae rfl,wac,wae c2];exact c1
       refine .ls (sz:=1) (fun e he=>by obtain⟨z,_,rfl⟩:=List.mem_map.1 he;rfl) ?_ (by simp[hks]) (by simp[hks];omega) hC;rw[xV,dw];intro a ha;obtain⟨z,_,rfl⟩:=List.mem_map.1 ha;rfl
     obtain⟨g',ex,s',hv⟩:=hread;refine⟨{target:=.fn (.func 209) ⟨[]⟩,args:=⟨[.func (.func 254) ⟨[]⟩ ⟨[.pointer (some ⟨l.block,l.base+0,none⟩)]⟩]⟩},Frame.enter CI.P 209 ⟨[.func (.func 254) ⟨[]⟩ ⟨[.pointer (some ⟨l.block,l.base+0,none⟩)]⟩]⟩ .normal,fun w=>by simp[Deferred.ofValue],.inl ⟨209,⟨[.func (.func 254) ⟨[]⟩ ⟨[.pointer (some ⟨l.block,l.base+0,none⟩)]⟩]⟩,?_,rfl⟩,g',U,w1,ex,.refl _ _,s',.refl _,hr,v,hv,?_⟩
     ·exact OG _ w
     ·show Steps CI.P (lone _ K.cs w) _;rw[hK,hb0]at *;exact hst
  ·cases q
 ·cases q
