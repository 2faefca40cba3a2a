/- SolverFinals: for all stores, lists of levels and terms the law returns true, and each argument reads behind the call as it read before (no condition). -/
import Derived.Test.YtnacljdablhbgaaGreatGs
import Derived.Below
import Derived.WideKeyArgs
namespace Go.Proofs.YtnacljdablhbgaaGreat
open Go.ChangeShapes Go.WideShapes Go.ChangeAt Go.RowKit
theorem rr41:Tryz.prog.readableRec 41=true:=by kernel_rfl
theorem rr23:Tryz.prog.readableRec 23=true:=by kernel_rfl
theorem rr26:Tryz.prog.readableRec 26=true:=by kernel_rfl
theorem z41:41<Tryz.prog.types.size:=of_decide_eq_true (by kernel_rfl)
theorem z23:23<Tryz.prog.types.size:=of_decide_eq_true (by kernel_rfl)
theorem z26:26<Tryz.prog.types.size:=of_decide_eq_true (by kernel_rfl)
theorem zg {W W':World}(h:∀b,b<W.heap.size->W'.heap[b]?=W.heap[b]?){p:MemPlace}(hp:p.block<W.heap.size):W.sameAt W' p:=by
 cases p with
 |cell b o=>exact World.cell?_of_block (w:=W) (h b hp)
 |map b=>exact h b hp
theorem Xs {W W':World}(h:∀b,b<W.heap.size->W'.heap[b]?=W.heap[b]?)(ho:W'.os=W.os)(hu:W'.output=W.output)(may:MemPlace->Prop):W.keptBut W' may:=by
 refine⟨ho,hu,fun i hi=>?_⟩;rw[h i hi];split<;>simp_all
theorem VZ {H:Type}{ts:List TypeId}{ds:List (DataW H)}(h:(DataW.weightsEach Tryz.prog ts ds).all (·<=reachBytes)=true){j:Nat}{t:TypeId}{d:DataW H}(ht:ts[j]?=some t)(hd:ds[j]?=some d):Wt t d:=by
 intro m hm;have:=List.all_eq_true.1 h m (DataW.weights_mem_each ht hd m hm);simpa using this
set_option maxRecDepth 100000 in
theorem nP (os:Os)(started:os.Started)(H:Type)(enc:TypeId×Value->H):
  ReturnsInHanded Rows.solverFinalsRow.assume Tryz.checked os 5 .any (Rows.solverFinalsSpec.pre6 enc Tryz.prog Tryz.f5 Rows.solverFinalsRow.domain false) (Rows.solverFinalsSpec.post enc Tryz.prog Tryz.f5 false true false false):=by
 rw[as5];refine returnsInHanded_of_change_sized (C:=Tryz.checked) Tryz.own started (by kernel_rfl) Tryz.func5
  (ChangeSpec.witness6 (enc:=enc) (C:=Tryz.checked) false ⟨#[],#[.agg #[.slice none 0 0,.slice none 0 0,.slice none 0 0,.int .i64 0],.slice none 0 0,.agg #[.int .i64 0,.int .i64 0,.string ⟨#[]⟩,.slice none 0 0,.slice none 0 0]],[]⟩ 8 (by kernel_rfl) (by kernel_rfl) (by kernel_rfl) (by kernel_rfl)) ?_
 intro W base args ds gs before hval0 hW _ hsz0 _;have hsz:(DataW.weightsEach Tryz.prog (Tryz.f5.params.toList++Rows.solverFinalsSpec.plain.varTypes Tryz.prog) (ds++gs)).all (·<=reachBytes)=true:=hsz0;clear hsz0;have hval:∀(j:Nat) t v,Tryz.f5.params[j]?=some t->args[j]?=some v->Value.okWide Tryz.prog W .any base t v:=hval0
 clear hval0;have hW':=hW;obtain⟨p,q,hA0,hV,rfl,_,_⟩:=hW;have hA:DataW.TrodAll enc Tryz.prog W 0 (fun _=>true) true Tryz.f5.params.toList args.toList ds p:=hA0;clear hA0;rw[ps5]at hA hsz;obtain⟨v0,v1,v2,d0,d1,d2,p0,p1,p2,rfl,rfl,rfl,h0,h1,h2⟩:=trodAll_three hA;obtain⟨rfl,rfl⟩:=trodVars_none hV;have hp5:∀j:Nat,Tryz.f5.params[j]?=([41,23,26]:List TypeId)[j]?:=fun j=>by rw[<-ps5,Array.getElem?_toList]
 have w0:Wt 41 d0:=VZ hsz (j:=0) rfl rfl;have w1:Wt 23 d1:=VZ hsz (j:=1) rfl rfl;have w2:Wt 26 d2:=VZ hsz (j:=2) rfl rfl;obtain⟨cs0,rfl,_⟩:=okWide_struct u41 (hval 0 41 v0 (by rw[hp5];rfl) rfl);obtain⟨a1,len,cap,rfl⟩:=okWide_slice u23 (hval 1 23 v1 (by rw[hp5];rfl) rfl);obtain⟨cs2,rfl,_⟩:=okWide_struct u26 (hval 2 26 v2 (by rw[hp5];rfl) rfl);obtain⟨n0,q0⟩:=h0;obtain⟨n1,q1⟩:=h1;obtain⟨n2,q2⟩:=h2;obtain⟨s,fs,hs⟩:=rd_S (n:=n0) (x:=(d0,p0)) q0 w0;obtain⟨vals,gv,_,v,ev,hl⟩:=jy (f:=AG.aK) (Good:=fun a=>a.v.length<1125899906842624) u23 acB (by omega) (by rw[y56];omega) CQ yd (x:=(d1,p1)) q1 w1 (fun m _ cs y hy hwy=>acn hy hwy);obtain⟨t,ft,ht⟩:=Us n2 (x:=(d2,p2)) q2 w2;have ev:[Value.slice a1 len cap]=[v]:=ev;have ev:Value.slice a1 len cap=v:=by injection ev
 subst ev;have hs:AG.bu (AG.iq W) (od s) (.agg cs0):=by
  have hs:AG.aR (AG.iq W) (od s).cells cs0.toList:=hs;have e:cs0=⟨cs0.toList⟩:=by cases cs0;rfl
  rw[e];exact .agg rfl hs
 have ht:AG.bu (AG.iq W) (AG.enc t) (.agg cs2):=by
  obtain⟨k,i,nm,ls,ks⟩:=t;have ht:AG.aR (AG.iq W) (AG.enc (.mk k i nm ls ks)).cells cs2.toList:=ht;rw[AG.ei]at ht ⊢;have e:cs2=⟨cs2.toList⟩:=by cases cs2;rfl
  rw[e];exact .agg rfl ht
 have hlt:∀x∈p0++p1++p2,x.block<W.heap.size:=fun x hx=>by simpa using hW'.lt x (by simpa using hx)
 refine(ad0 s vals t fs gv ft W [.agg cs0,.slice a1 len cap,.agg cs2] (.cons hs (.cons hl (.cons ht .nil)))).mono fun e W' ⟨he,hb,ho,hu⟩=>?_
 subst he;have hr:Tryz.f5.resultTypes=#[4]:=rs5;refine⟨_,rfl,_,_,_,[],p0++(p1++p2),[],hW',?_,?_,rfl,Xs hb ho hu _,fun h=>by cases h⟩
 ·show DataW.TrodAll enc Tryz.prog W' _ _ _ Tryz.f5.resultTypes.toList ((Value.bool true).resultList Tryz.f5.resultTypes.size) [.lit (.bool true)] [];rw[hr];exact trodAll_mk1 (shut_bool u4 true)
 ·show DataW.TrodAll enc Tryz.prog W' 0 _ true Tryz.f5.params.toList _ [d0,d1,d2] _;rw[ps5];exact trodAll_mk3 (WideElems.Trod_stays Tryz.laidOut rr41 z41 ⟨n0,q0⟩ (fun x hx=>zg hb (hlt x (by simp[hx]))) (fun x hx=>by simpa using hlt x (by simp[hx])))
   (WideElems.Trod_stays Tryz.laidOut rr23 z23 ⟨n1,q1⟩ (fun x hx=>zg hb (hlt x (by simp[hx]))) (fun x hx=>by simpa using hlt x (by simp[hx])))
   (WideElems.Trod_stays Tryz.laidOut rr26 z26 ⟨n2,q2⟩ (fun x hx=>zg hb (hlt x (by simp[hx]))) (fun x hx=>by simpa using hlt x (by simp[hx])))
theorem solverFinals_holds:Rows.SolverFinalsSaid:=
 OpenClaim.holds_of_wide 5 Tryz.f5 rfl rfl rfl rfl rfl rfl rfl ⟨rfl,rfl,rfl,rfl,rfl⟩ rfl rfl rfl rfl rfl nm5 Tryz.func5 jg
  (of_decide_eq_true (by kernel_rfl)) (by unfold Func.isWrapper;first|(rw[if_pos (by decide +kernel)];kernel_rfl)|(rw[if_neg (by decide +kernel)];exact⟨rfl,rfl⟩))
  (fun os started H enc _=>nP os started H enc)
#print axioms solverFinals_holds
