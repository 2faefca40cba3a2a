/- SolverFinishes: what the arguments read as (no condition). -/
import Derived.Test.YtnacljdablhbgaaGreatFb
import Derived.ProofKit
import Derived.SizedLaws
import Derived.Test.YtnacljdablhbgaaGreatRows
namespace Go.Proofs.YtnacljdablhbgaaGreat
open Go.AG
section
variable {H:Type}{en:TypeId×Value->H}{w:World}{base:Nat}{sp:Nat->Bool}{held:Bool}
theorem u3:Tryz.prog.underlying 3=some (.int .i64):=by kernel_rfl
theorem u9:Tryz.prog.underlying 9=some .string:=by kernel_rfl
theorem u23:Tryz.prog.underlying 23=some (.slice 56):=by kernel_rfl
theorem u24:Tryz.prog.underlying 24=some (.slice 26):=by kernel_rfl
theorem u54:Tryz.prog.underlying 54=some (.slice 103):=by kernel_rfl
theorem c3:Tryz.prog.cellsOf 3=1:=by kernel_rfl
theorem cc9:Tryz.prog.cellsOf 9=1:=by kernel_rfl
theorem cc23:Tryz.prog.cellsOf 23=1:=by kernel_rfl
theorem cc24:Tryz.prog.cellsOf 24=1:=by kernel_rfl
theorem cc54:Tryz.prog.cellsOf 54=1:=by kernel_rfl
theorem Zr:Tryz.prog.cellsOf 26=5:=by kernel_rfl
theorem acB:Tryz.prog.cellsOf 56=2:=by kernel_rfl
theorem abC:Tryz.prog.cellsOf 103=2:=by kernel_rfl
theorem y3:Tryz.prog.bytesOf 3=8:=by kernel_rfl
theorem y26:Tryz.prog.bytesOf 26=80:=by kernel_rfl
theorem y56:Tryz.prog.bytesOf 56=32:=by kernel_rfl
theorem y103:Tryz.prog.bytesOf 103=16:=by kernel_rfl
noncomputable def rD (t:TypeId):Array Field:=((Tryz.prog.underlying t).bind fun|.struct fs=>some fs|_=>none).getD #[]
theorem u26:Tryz.prog.underlying 26=some (.struct (rD 26)):=by kernel_rfl
theorem u56:Tryz.prog.underlying 56=some (.struct (rD 56)):=by kernel_rfl
theorem u103:Tryz.prog.underlying 103=some (.struct (rD 103)):=by kernel_rfl
theorem k26:(rD 26).toList.map (fun f=>(f.type,f.offset))=[(3,0),(3,1),(9,2),(23,3),(24,4)]:=by kernel_rfl
theorem k56:(rD 56).toList.map (fun f=>(f.type,f.offset))=[(3,0),(54,1)]:=by kernel_rfl
theorem k103:(rD 103).toList.map (fun f=>(f.type,f.offset))=[(3,0),(3,1)]:=by kernel_rfl
def Wt (t:TypeId)(d:DataW H):Prop:=∀m∈d.weights Tryz.prog t,m<=reachBytes
theorem mY {e:TypeId}: ∀{l:List (DataW H)} {d:DataW H},d∈l->∀m∈d.weights Tryz.prog e,m∈DataW.weightsAll Tryz.prog e l
 |a::l,d,hd,m,hm=>by
  simp only[DataW.weightsAll,List.mem_append];rcases List.mem_cons.1 hd with rfl|h
  ·exact .inl hm
  ·exact .inr (mY h m hm)
theorem tG {n:Nat}{cs:List Value}{x:DataW H×List MemPlace}(h:DataW.trod en Tryz.prog w base sp held n 3 cs=some x):∃z:Int,cs=[.int .i64 z]/\-9223372036854775808<=z/\z<9223372036854775808:=by
 obtain⟨z,rfl,_,hw⟩:=DataW.trod_int u3 h;refine⟨z,rfl,?_⟩;simp only[Lit.wf,Bool.and_eq_true,decide_eq_true_eq]at hw;have e1:IntKind.min .i64=-9223372036854775808:=rfl;have e2:IntKind.max .i64=9223372036854775807:=rfl;omega
theorem adl {n:Nat}{cs:List Value}{x:DataW H×List MemPlace}(h:DataW.trod en Tryz.prog w base sp held n 9 cs=some x)(hw:Wt 9 x.1):∃s:ByteArray,cs=[.string s]/\s.size<1125899906842624:=by
 obtain⟨s,rfl,rfl,_⟩:=DataW.trod_string u9 h;refine⟨s,rfl,?_⟩;have:=hw s.data.toList.length (by rw[DataW.weights];exact List.mem_singleton.2 rfl);have e:s.data.toList.length=s.size:=Array.length_toList;have:=reachBytes_lt;omega
theorem ja {t:TypeId}{l:List (TypeId×Nat)}(ht:Tryz.prog.underlying t=some (.struct (rD t)))(hk:(rD t).toList.map (fun f=>(f.type,f.offset))=l){n:Nat}{cs:List Value}{x:DataW H×List MemPlace}(h:DataW.trod en Tryz.prog w base sp held n t cs=some x)(hw:Wt t x.1):
  cs.length=Tryz.prog.cellsOf t/\∃m,n=m+1/\∀(i:Nat) ft fo,l[i]?=some (ft,fo)->∃y:DataW H×List MemPlace,DataW.trod en Tryz.prog w base sp held m ft ((cs.drop fo).take (Tryz.prog.cellsOf ft))=some y/\Wt ft y.1:=by
 obtain⟨xs,m,rfl,rfl,hl,hx,hi⟩:=DataW.trod_struct ht h;refine⟨hl,m,rfl,fun i ft fo e=>?_⟩;rw[<-hk,List.getElem?_map]at e;cases hf:(rD t).toList[i]? with
 |none=>rw[hf]at e;cases e
 |some f=>
  rw[hf]at e;simp only[Option.map_some,Option.some.injEq,Prod.mk.injEq]at e;obtain⟨rfl,rfl⟩:=e;have hf':(rD t)[i]?=some f:=by simpa using hf
  have:=hi i f hf';have hlt:i<xs.length:=by rw[hx];exact(Array.getElem?_eq_some_iff.1 hf').1
  rw[wO hlt]at this;refine⟨xs[i],this,fun q hq=>hw q ?_⟩;simp only[DataW.weights,ht];exact DataW.weights_mem_each (j:=i) (t:=f.type) (d:=xs[i].1) (by rw[List.getElem?_map,hf];rfl) (by rw[List.getElem?_map,wO hlt];rfl) q hq
theorem jy {α:Type}{t e:TypeId}{sz:Nat}{f:α->AV}{Good:α->Prop}(ht:Tryz.prog.underlying t=some (.slice e))(hc:Tryz.prog.cellsOf e=sz)(hsz:0<sz)(hy:0<Tryz.prog.bytesOf e)
  (hf:∀a,(f a).cells.length=sz) (hfc:∀a,aO (f a).cells=true) {n:Nat} {cs:List Value} {x:DataW H×List MemPlace} (h:DataW.trod en Tryz.prog w base sp held n t cs=some x) (hw:Wt t x.1)
  (hel:∀m,n=m+1->∀cs y,DataW.trod en Tryz.prog w base sp held m e cs=some y->Wt e y.1->∃a,Good a/\aR (iq w) (f a).cells cs) :
  ∃l:List α,(∀a∈l,Good a)/\l.length<1125899906842624/\∃v,cs=[v]/\bu (iq w) (.ls (l.map f)) v:=by
 rcases DataW.trod_slice ht h with⟨rfl,rfl⟩|⟨a,len,cap,sa,rest,m,rfl,rfl,rfl,hb,hl,hm,hlen,hi,_,_⟩
 ·exact⟨[],by simp,by simp,_,rfl,.lst0⟩
 ·have hbig:len<1125899906842624:=by
   have:=hw ((sa.map (·.1)).length+(rest.map (·.1)).length |>.mul (Tryz.prog.bytesOf e)) (by simp[DataW.weights,ht]);have h2:=reachBytes_lt;have:((sa.map (·.1)).length+(rest.map (·.1)).length)*Tryz.prog.bytesOf e<=reachBytes:=this;have h3:((sa.map (·.1)).length+(rest.map (·.1)).length)*1<=((sa.map (·.1)).length+(rest.map (·.1)).length)*Tryz.prog.bytesOf e:=Nat.mul_le_mul_left _ hy;simp only[waa]at *;omega
  have key:∀k,k<=len->∃l:List α,l.length=k/\(∀a∈l,Good a)/\∃us,aR (iq w) (flat (l.map f)) us/\us.length=k*sz/\∀i u,us[i]?=some u->w.cell? (a.add i)=some u:=by
   intro k;induction k with
   |zero=>intro _;exact⟨[],rfl,by simp,[],.nil,by simp,by simp⟩
   |succ k ih=>
    intro hk;obtain⟨l,hl1,hl2,us,hv,hul,hu⟩:=ih (by omega);have hik:=hi k (by omega);have hke:k<sa.length:=by omega
    rw[wO hke]at hik;obtain⟨cs',q1,q2⟩:=Option.bind_eq_some_iff.1 hik;obtain⟨_,hcl,hcells⟩:=World.cells?_some q1;obtain⟨z,hg,hz⟩:=hel m rfl cs' _ q2 (fun q hq=>hw q (by
     simp only[DataW.weights,ht,List.mem_cons,List.mem_append];exact .inr (.inl (mY (List.mem_map.2 ⟨sa[k],List.getElem_mem hke,rfl⟩) q hq))))
    refine⟨l++[z],by simp[hl1],?_,us++cs',?_,?_,?_⟩
    ·intro a ha;rcases List.mem_append.1 ha with h|h
     ·exact hl2 a h
     ·simp at h;subst h;exact hg
    ·rw[List.map_append,jt];refine hv.append ?_;simp only[List.map_cons,List.map_nil];rw[bO,mc,wab];exact hz
    ·rw[List.length_append,hul,hcl,hc,Nat.succ_mul]
    ·intro i u hiu;by_cases hlt:i<us.length
     ·rw[List.getElem?_append_left hlt]at hiu;exact hu i u hiu
     ·rw[List.getElem?_append_right (by omega)]at hiu;have hi':i-us.length<cs'.length:=by
       rcases Nat.lt_or_ge (i-us.length) cs'.length with h|h
       ·exact h
       ·rw[List.getElem?_eq_none h]at hiu;cases hiu
      have:=hcells (i-us.length) (by omega);rw[hiu,Addr.add_add,hc]at this;rw[show k*sz+(i-us.length)=i by omega]at this;exact this
  obtain⟨l,hl1,hl2,us,hv,hul,hu⟩:=key len (Fv _);refine⟨l,hl2,(show l.length<1125899906842624 by rw[hl1];exact hbig),_,rfl,?_⟩;by_cases h0:len=0
  ·have:l=[]:=List.length_eq_zero_iff.1 (by omega);subst this;subst h0;exact .lst0
  ·have hpos:0<us.length:=by rw[hul];exact Nat.mul_pos (by omega) hsz
   have hspot:=World.cell?_spot (hu 0 _ (wO hpos));rw[show a.add 0=a by simp[Addr.add]]at hspot;obtain⟨b,off,spot⟩:=a;simp only at hspot;subst hspot;refine .ls (sz:=sz) ?_ ?_ (by simp[hl1]) (by simp[hl1];omega) (fm.mk hv fun i u hiu=>?_)
   ·intro e he;obtain⟨a,_,rfl⟩:=List.mem_map.1 he;exact hf a
   ·rw[dw];intro c hc;clear hv key hl1 hl2 ;induction l with
    |nil=>simp[mc]at hc
    |cons a l ih=>
     rw[List.map_cons,bO,List.mem_append]at hc;rcases hc with hc|hc
     ·exact(dw _).1 (hfc a) c hc
     ·exact ih hc
   ·have:=hu i u hiu;rw[show(⟨b,off,none⟩:Addr).add i=⟨b,off+i,none⟩ by unfold Addr.add;split<;>simp_all]at this;exact this
end
theorem Py {l:List Value}(h:l.length=2):∃a b,l=[a,b]:=by
 match l,h with
 |[a,b],_=>exact⟨a,b,rfl⟩
theorem XI {l:List Value}(h:l.length=5):∃a b c d e,l=[a,b,c,d,e]:=by
 match l,h with
 |[a,b,c,d,e],_=>exact⟨a,b,c,d,e,rfl⟩
section
variable {H:Type}{en:TypeId×Value->H}{w:World}{base:Nat}{sp:Nat->Bool}{held:Bool}
theorem rd_V {n:Nat}{cs:List Value}{x:DataW H×List MemPlace}(h:DataW.trod en Tryz.prog w base sp held n 103 cs=some x)(hw:Wt 103 x.1):∃a:LV,True/\aR (iq w) (encV a).cells cs:=by
 obtain⟨hl,m,rfl,hf⟩:=ja u103 k103 h hw;rw[abC]at hl;obtain⟨y0,h0,_⟩:=hf 0 3 0 rfl;obtain⟨y1,h1,_⟩:=hf 1 3 1 rfl;rw[c3]at h0 h1;obtain⟨a,b,rfl⟩:=Py hl;obtain⟨z0,e0,_⟩:=tG h0;obtain⟨z1,e1,_⟩:=tG h1;simp only[List.drop_zero,List.drop_succ_cons,List.take_succ_cons,List.take_zero,List.cons.injEq,and_true]at e0 e1;subst e0 e1;exact⟨⟨z0,z1⟩,trivial,.cons (.int _ _) (.cons (.int _ _) .nil)⟩
theorem OI (a:LV):(encV a).cells.length=2:=rfl
theorem Li (a:LV):aO (encV a).cells=true:=rfl
theorem CQ (a:LL):(aK a).cells.length=2:=rfl
theorem yd (a:LL):aO (aK a).cells=true:=rfl
theorem CP (a:T):aO (enc a).cells=true:=by cases a;rw[ei];rfl
theorem acn {n:Nat}{cs:List Value}{x:DataW H×List MemPlace}(h:DataW.trod en Tryz.prog w base sp held n 56 cs=some x)(hw:Wt 56 x.1):∃a:LL,a.v.length<1125899906842624/\aR (iq w) (aK a).cells cs:=by
 obtain⟨hl,m,rfl,hf⟩:=ja u56 k56 h hw;rw[acB]at hl;obtain⟨y0,h0,_⟩:=hf 0 3 0 rfl;obtain⟨y1,h1,w1⟩:=hf 1 54 1 rfl;rw[c3]at h0;rw[cc54]at h1;obtain⟨a,b,rfl⟩:=Py hl;obtain⟨z0,e0,_⟩:=tG h0;obtain⟨l,_,hb,v,e1,hv⟩:=jy (f:=encV) (Good:=fun _=>True) u54 abC (by omega) (by rw[y103];omega) OI Li h1 w1 (fun m _ cs y hy hwy=>rd_V hy hwy);simp only[List.drop_zero,List.drop_succ_cons,List.take_succ_cons,List.take_zero,List.cons.injEq,and_true]at e0 e1;subst e0 e1;exact⟨⟨z0,l⟩,hb,.cons (.int _ _) (.cons hv .nil)⟩
theorem Us:∀(n:Nat) {cs:List Value} {x:DataW H×List MemPlace},DataW.trod en Tryz.prog w base sp held n 26 cs=some x->Wt 26 x.1->∃t:T,Fit t/\aR (iq w) (enc t).cells cs:=by
 intro n;induction n using Nat.strongRecOn with
 |ind n ih=>
  intro cs x h hw;obtain⟨hl,m,rfl,hf⟩:=ja u26 k26 h hw;rw[Zr]at hl;obtain⟨y0,h0,_⟩:=hf 0 3 0 rfl;obtain⟨y1,h1,_⟩:=hf 1 3 1 rfl;obtain⟨y2,h2,w2⟩:=hf 2 9 2 rfl;obtain⟨y3,h3,w3⟩:=hf 3 23 3 rfl;obtain⟨y4,h4,w4⟩:=hf 4 24 4 rfl;rw[c3]at h0 h1;rw[cc9]at h2;rw[cc23]at h3;rw[cc24]at h4;obtain⟨a,b,c,d,e,rfl⟩:=XI hl;obtain⟨z0,e0,_⟩:=tG h0;obtain⟨z1,e1,r1,r2⟩:=tG h1;obtain⟨s,e2,hs⟩:=adl h2 w2;obtain⟨ls,g3,b3,v3,e3,r3⟩:=jy (f:=aK) (Good:=fun a=>a.v.length<1125899906842624) u23 acB (by omega) (by rw[y56];omega) CQ yd h3 w3 (fun m _ cs y hy hwy=>acn hy hwy);obtain⟨ks,g4,b4,v4,e4,r4⟩:=jy (f:=enc) (Good:=Fit) u24 Zr (by omega) (by rw[y26];omega) aZ CP h4 w4 (fun m' hm cs y hy hwy=>ih m' (by omega) hy hwy);simp only[List.drop_zero,List.drop_succ_cons,List.take_succ_cons,List.take_zero,List.cons.injEq,and_true]at e0 e1 e2 e3 e4;subst e0 e1 e2 e3 e4;refine⟨.mk z0 z1 s ls ks,⟨r1,r2,hs,b3,g3,b4,g4⟩,?_⟩;rw[ei];exact .cons (.int _ _) (.cons (.int _ _) (.cons (.str _) (.cons r3 (.cons r4 .nil))))
end
section
variable {H:Type}{en:TypeId×Value->H}{w:World}{base:Nat}{sp:Nat->Bool}{held:Bool}
theorem ub4:Tryz.prog.underlying 4=some .bool:=by kernel_rfl
theorem u37:Tryz.prog.underlying 37=some (.slice 71):=by kernel_rfl
theorem u38:Tryz.prog.underlying 38=some (.slice 77):=by kernel_rfl
theorem u39:Tryz.prog.underlying 39=some (.slice 89):=by kernel_rfl
theorem u41:Tryz.prog.underlying 41=some (.struct (rD 41)):=by kernel_rfl
theorem u71:Tryz.prog.underlying 71=some (.struct (rD 71)):=by kernel_rfl
theorem u77:Tryz.prog.underlying 77=some (.struct (rD 77)):=by kernel_rfl
theorem u89:Tryz.prog.underlying 89=some (.struct (rD 89)):=by kernel_rfl
theorem k41:(rD 41).toList.map (fun f=>(f.type,f.offset))=[(37,0),(38,1),(39,2),(3,3)]:=by kernel_rfl
theorem k71:(rD 71).toList.map (fun f=>(f.type,f.offset))=[(26,0),(4,5),(26,6),(4,11)]:=by kernel_rfl
theorem k77:(rD 77).toList.map (fun f=>(f.type,f.offset))=[(24,0),(26,1),(26,6),(4,11)]:=by kernel_rfl
theorem k89:(rD 89).toList.map (fun f=>(f.type,f.offset))=[(56,0),(56,2)]:=by kernel_rfl
theorem cl4:Tryz.prog.cellsOf 4=1:=by kernel_rfl
theorem cl37:Tryz.prog.cellsOf 37=1:=by kernel_rfl
theorem cl38:Tryz.prog.cellsOf 38=1:=by kernel_rfl
theorem cl39:Tryz.prog.cellsOf 39=1:=by kernel_rfl
theorem cl41:Tryz.prog.cellsOf 41=4:=by kernel_rfl
theorem cl71:Tryz.prog.cellsOf 71=12:=by kernel_rfl
theorem cl77:Tryz.prog.cellsOf 77=12:=by kernel_rfl
theorem cl89:Tryz.prog.cellsOf 89=4:=by kernel_rfl
theorem y71:0<Tryz.prog.bytesOf 71:=of_decide_eq_true (by kernel_rfl)
theorem y77:0<Tryz.prog.bytesOf 77:=of_decide_eq_true (by kernel_rfl)
theorem y89:0<Tryz.prog.bytesOf 89:=of_decide_eq_true (by kernel_rfl)
theorem aet {n:Nat}{cs:List Value}{x:DataW H×List MemPlace}(h:DataW.trod en Tryz.prog w base sp held n 4 cs=some x):∃b:Bool,cs=[.bool b]:=by
 obtain⟨b,rfl,_⟩:=DataW.trod_bool ub4 h;exact⟨b,rfl⟩
theorem jB {α:Type}(l:List α)(i m k:Nat)(h:i+m=k):l.drop i=(l.drop i).take m++l.drop k:=by
 rw[<-h,<-List.drop_drop,List.take_append_drop]
theorem Ll (m:MV):aO (cD m).cells=true:=rfl
theorem Lj (m:QV):aO (gC m).cells=true:=rfl
theorem Em (m:LL×LL):aO (cQ m).cells=true:=rfl
theorem rd_M {n:Nat}{cs:List Value}{x:DataW H×List MemPlace}(h:DataW.trod en Tryz.prog w base sp held n 71 cs=some x)(hw:Wt 71 x.1):∃m:MV,UD m/\aR (iq w) (cD m).cells cs:=by
 obtain⟨hl,m,rfl,hf⟩:=ja u71 k71 h hw;rw[cl71]at hl;obtain⟨y0,h0,w0⟩:=hf 0 26 0 rfl;obtain⟨y1,h1,_⟩:=hf 1 4 5 rfl;obtain⟨y2,h2,w2⟩:=hf 2 26 6 rfl;obtain⟨y3,h3,_⟩:=hf 3 4 11 rfl;rw[Zr]at h0 h2;rw[cl4]at h1 h3;obtain⟨t0,f0,r0⟩:=Us m h0 w0;obtain⟨b1,e1⟩:=aet h1;obtain⟨t2,f2,r2⟩:=Us m h2 w2;obtain⟨b3,e3⟩:=aet h3;refine⟨⟨t0,b1,t2,b3⟩,⟨f0,f2⟩,?_⟩;have ec:(cD ⟨t0,b1,t2,b3⟩).cells=(enc t0).cells++([.bool b1]++((enc t2).cells++[.bool b3])):=by rw[aA t0,aA t2];rfl
 have es:cs=(cs.drop 0).take 5++((cs.drop 5).take 1++((cs.drop 6).take 5++(cs.drop 11).take 1)):=by
  have h4:(cs.drop 11).take 1=cs.drop 11:=List.take_of_length_le (by rw[List.length_drop];omega);rw[h4,<-jB cs 6 5 11 rfl,<-jB cs 5 1 6 rfl,<-jB cs 0 5 5 rfl,List.drop_zero]
 rw[ec,es,e1,e3];exact r0.append (aR.append (.cons (.bool _) .nil) (r2.append (.cons (.bool _) .nil)))
theorem rd_Q {n:Nat}{cs:List Value}{x:DataW H×List MemPlace}(h:DataW.trod en Tryz.prog w base sp held n 77 cs=some x)(hw:Wt 77 x.1):∃q:QV,afb q/\aR (iq w) (gC q).cells cs:=by
 obtain⟨hl,m,rfl,hf⟩:=ja u77 k77 h hw;rw[cl77]at hl;obtain⟨y0,h0,w0⟩:=hf 0 24 0 rfl;obtain⟨y1,h1,w1⟩:=hf 1 26 1 rfl;obtain⟨y2,h2,w2⟩:=hf 2 26 6 rfl;obtain⟨y3,h3,_⟩:=hf 3 4 11 rfl;rw[cc24]at h0;rw[Zr]at h1 h2;rw[cl4]at h3;obtain⟨l0,g0,b0,v0,e0,r0⟩:=jy (f:=enc) (Good:=Fit) u24 Zr (by omega) (by rw[y26];omega) aZ CP h0 w0 (fun m' hm cs y hy hwy=>Us m' hy hwy);obtain⟨t1,f1,r1⟩:=Us m h1 w1;obtain⟨t2,f2,r2⟩:=Us m h2 w2;obtain⟨b3,e3⟩:=aet h3;refine⟨⟨l0,t1,t2,b3⟩,⟨b0,g0,f1,f2⟩,?_⟩;have ec:(gC ⟨l0,t1,t2,b3⟩).cells=[.ls (l0.map enc)]++((enc t1).cells++((enc t2).cells++[.bool b3])):=by rw[aA t1,aA t2];rfl
 have es:cs=(cs.drop 0).take 1++((cs.drop 1).take 5++((cs.drop 6).take 5++(cs.drop 11).take 1)):=by
  have h4:(cs.drop 11).take 1=cs.drop 11:=List.take_of_length_le (by rw[List.length_drop];omega);rw[h4,<-jB cs 6 5 11 rfl,<-jB cs 1 5 6 rfl,<-jB cs 0 1 1 rfl,List.drop_zero]
 rw[ec,es,e0,e3];exact aR.append (.cons r0 .nil) (r1.append (r2.append (.cons (.bool _) .nil)))
theorem rd_Bd {n:Nat}{cs:List Value}{x:DataW H×List MemPlace}(h:DataW.trod en Tryz.prog w base sp held n 89 cs=some x)(hw:Wt 89 x.1):∃b:LL×LL,(b.1.v.length<1125899906842624/\b.2.v.length<1125899906842624)/\aR (iq w) (cQ b).cells cs:=by
 obtain⟨hl,m,rfl,hf⟩:=ja u89 k89 h hw;rw[cl89]at hl;obtain⟨y0,h0,w0⟩:=hf 0 56 0 rfl;obtain⟨y1,h1,w1⟩:=hf 1 56 2 rfl;rw[acB]at h0 h1;obtain⟨a,f0,r0⟩:=acn h0 w0;obtain⟨b,f1,r1⟩:=acn h1 w1;refine⟨(a,b),⟨f0,f1⟩,?_⟩;have ec:(cQ (a,b)).cells=(aK a).cells++(aK b).cells:=rfl;have es:cs=(cs.drop 0).take 2++(cs.drop 2).take 2:=by
  have h4:(cs.drop 2).take 2=cs.drop 2:=List.take_of_length_le (by rw[List.length_drop];omega);rw[h4,<-jB cs 0 2 2 rfl,List.drop_zero]
 rw[ec,es];exact r0.append r1
theorem rd_S {n:Nat}{cs:List Value}{x:DataW H×List MemPlace}(h:DataW.trod en Tryz.prog w base sp held n 41 cs=some x)(hw:Wt 41 x.1):∃s:SV,Me s/\aR (iq w) (od s).cells cs:=by
 obtain⟨hl,m,rfl,hf⟩:=ja u41 k41 h hw;rw[cl41]at hl;obtain⟨y0,h0,w0⟩:=hf 0 37 0 rfl;obtain⟨y1,h1,w1⟩:=hf 1 38 1 rfl;obtain⟨y2,h2,w2⟩:=hf 2 39 2 rfl;obtain⟨y3,h3,_⟩:=hf 3 3 3 rfl;rw[cl37]at h0;rw[cl38]at h1;rw[cl39]at h2;rw[c3]at h3;obtain⟨l0,g0,b0,v0,e0,r0⟩:=jy (f:=cD) (Good:=UD) u37 cl71 (by omega) y71 ie Ll h0 w0 (fun m' hm cs y hy hwy=>rd_M hy hwy);obtain⟨l1,g1,b1,v1,e1,r1⟩:=jy (f:=gC) (Good:=afb) u38 cl77 (by omega) y77 uC Lj h1 w1 (fun m' hm cs y hy hwy=>rd_Q hy hwy);obtain⟨l2,g2,b2,v2,e2,r2⟩:=jy (f:=cQ) (Good:=fun b=>b.1.v.length<1125899906842624/\b.2.v.length<1125899906842624) u39 cl89 (by omega) y89 nI Em h2 w2 (fun m' hm cs y hy hwy=>rd_Bd hy hwy);obtain⟨z3,e3,_⟩:=tG h3;refine⟨⟨l0,l1,l2,z3⟩,⟨b0,g0,b1,g1,b2,g2⟩,?_⟩;have es:cs=(cs.drop 0).take 1++((cs.drop 1).take 1++((cs.drop 2).take 1++(cs.drop 3).take 1)):=by
  have h4:(cs.drop 3).take 1=cs.drop 3:=List.take_of_length_le (by rw[List.length_drop];omega);rw[h4,<-jB cs 2 1 3 rfl,<-jB cs 1 1 2 rfl,<-jB cs 0 1 1 rfl,List.drop_zero]
 rw[es,e0,e1,e2,e3];exact .cons r0 (.cons r1 (.cons r2 (.cons (.int _ _) .nil)))
end
end Go.Proofs.YtnacljdablhbgaaGreat
namespace Go.Proofs.YtnacljdablhbgaaGreat
open Go.ChangeShapes Go.WideShapes Go.ChangeAt Go.RowKit
theorem Tryz.own:ownKnob Tryz.prog.godebug=none:=by kernel_rfl
theorem Tryz.laidOut:laidOutB Tryz.prog=true:=by kernel_rfl
theorem mapsR:mapsRowed Tryz.prog=true:=by kernel_rfl
theorem as4:Rows.solverFinishesRow.assume={}:=rfl
theorem ps4:Tryz.f4.params.toList=[41]:=by kernel_rfl
theorem u4:Tryz.prog.underlying 4=some .bool:=by kernel_rfl
