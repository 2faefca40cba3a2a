/- MachineKeeps: what the argument reads as, and how much it is (no condition). -/
import Derived.Test.YtocdlbblemjabaaGreatDoorCb
import Derived.Test.YtocdlbblemjabaaGreatDoorRows
import Derived.ProofKit
import Derived.SizedLaws
import Derived.WalkKit
import Derived.OpenShut
import Derived.Deep.DeepHandedRow
import Derived.Lib.LaidTab
import Derived.LaidSub
import Derived.Below
import Derived.WideKeyArgs
noncomputable section
namespace Go.Proofs.YtocdlbblemjabaaGreatDoor
open Go.AG Go.AG.MK Go.Proofs
theorem Fh {H:Type}(d:DataW H):1<=Rows.uptoBulk d:=by
 cases d with
 |lit l=>cases l<;>simp[Rows.uptoBulk]
 |nil=>simp[Rows.uptoBulk]
 |ptr d=>simp[Rows.uptoBulk]
 |slice iU spare=>simp[Rows.uptoBulk]
 |agg parts=>simp[Rows.uptoBulk]
 |iface t d=>simp[Rows.uptoBulk]
 |map entries=>simp[Rows.uptoBulk]
 |held h=>simp[Rows.uptoBulk]
theorem Fi {H:Type}(l r:List (DataW H)):Rows.uptoBulkAll (l++r)=Rows.uptoBulkAll l+Rows.uptoBulkAll r:=by
 induction l with
 |nil=>simp[Rows.uptoBulkAll]
 |cons x l ih=>simp only[List.cons_append,Rows.uptoBulkAll,ih];omega
theorem yY {H:Type}(l:List (DataW H))(k:Nat):Rows.uptoBulkAll (l.take k)<=Rows.uptoBulkAll l:=by
 have:=Fi (l.take k) (l.drop k);rw[List.take_append_drop]at this;omega
def uy {α:Type}(mu:α->Nat):List α->Nat
 |[]=>0
 |a::l=>mu a+uy mu l
theorem WC {α:Type}(mu:α->Nat)(l r:List α):uy mu (l++r)=uy mu l+uy mu r:=by
 induction l with
 |nil=>simp[uy]
 |cons x l ih=>simp only[List.cons_append,uy,ih];omega
theorem uB (l:List T):bO l=uy size l:=by
 induction l with
 |nil=>rfl
 |cons x l ih=>rw[bO,uy,ih]
def PV (g:Gh):List (List AV×Nat)->List Value->Prop
 |[],cs=>cs=[]
 |p::L,cs=>aY g p.1 (cs.take p.2)/\PV g L (cs.drop p.2)
theorem PV.all {g:Gh}: ∀ {L:List (List AV×Nat)} {cs:List Value},PV g L cs->aY g (L.flatMap (·.1)) cs
 |[],cs,h=>by rw[show cs=[] from h];exact .nil
 |p::L,cs,h=>by
  rw[List.flatMap_cons,<- List.take_append_drop p.2 cs];exact h.1.append (PV.all h.2)
section
variable {H:Type}{en:TypeId×Value->H}{w:World}{base:Nat}{sp:Nat->Bool}{held:Bool}
def ux (t:TypeId):Array Field:=((Tryz.prog.underlying t).bind fun|.struct fs=>some fs|_=>none).getD #[]
def fo (t:TypeId):List (TypeId×Nat)->Prop:=fun l=>(ux t).toList.map (fun f=>(f.type,f.offset))=l
theorem u3x:Tryz.prog.underlying 3=some (.int .i64):=r_
theorem u4:Tryz.prog.underlying 4=some .bool:=r_
theorem u9:Tryz.prog.underlying 9=some .string:=r_
theorem u22:Tryz.prog.underlying 22=some (.slice 123):=r_
theorem u23:Tryz.prog.underlying 23=some (.slice 40):=r_
theorem u38:Tryz.prog.underlying 38=some (.slice 113):=r_
theorem u111:Tryz.prog.underlying 111=some (.slice 160):=r_
theorem u118:Tryz.prog.underlying 118=some (.slice 167):=r_
theorem u121:Tryz.prog.underlying 121=some (.slice 154):=r_
theorem u150:Tryz.prog.underlying 150=some (.slice 204):=r_
theorem u25:Tryz.prog.underlying 25=some (.struct (ux 25)):=r_
theorem u40:Tryz.prog.underlying 40=some (.struct (ux 40)):=r_
theorem u113:Tryz.prog.underlying 113=some (.struct (ux 113)):=r_
theorem u160:Tryz.prog.underlying 160=some (.struct (ux 160)):=r_
theorem u120:Tryz.prog.underlying 120=some (.struct (ux 120)):=r_
theorem u123:Tryz.prog.underlying 123=some (.struct (ux 123)):=r_
theorem u152:Tryz.prog.underlying 152=some (.struct (ux 152)):=r_
theorem u154:Tryz.prog.underlying 154=some (.struct (ux 154)):=r_
theorem u167:Tryz.prog.underlying 167=some (.struct (ux 167)):=r_
theorem u204:Tryz.prog.underlying 204=some (.struct (ux 204)):=r_
theorem k25:fo 25 [(22,0),(23,1)]:=by unfold fo;kernel_rfl
theorem k40:fo 40 [(3,0),(3,1),(9,2),(38,3),(23,4)]:=by unfold fo;kernel_rfl
theorem k113:fo 113 [(3,0),(111,1)]:=by unfold fo;kernel_rfl
theorem k160:fo 160 [(3,0),(3,1)]:=by unfold fo;kernel_rfl
theorem k120:fo 120 [(3,0),(40,1),(23,6)]:=by unfold fo;kernel_rfl
theorem k123:fo 123 [(3,0),(9,1),(3,2),(40,3),(40,8),(3,13),(118,14),(120,15),(121,22)]:=by unfold fo;kernel_rfl
theorem k152:fo 152 [(3,0),(40,1),(3,6),(150,7)]:=by unfold fo;kernel_rfl
theorem k154:fo 154 [(9,0),(40,1),(3,6),(152,7)]:=by unfold fo;kernel_rfl
theorem k167:fo 167 [(9,0),(40,1)]:=by unfold fo;kernel_rfl
theorem k204:fo 204 [(9,0),(4,1),(152,2)]:=by unfold fo;kernel_rfl
theorem n1:Tryz.prog.cellsOf 3=1/\Tryz.prog.cellsOf 4=1/\Tryz.prog.cellsOf 9=1/\Tryz.prog.cellsOf 22=1/\Tryz.prog.cellsOf 23=1/\Tryz.prog.cellsOf 38=1/\Tryz.prog.cellsOf 111=1/\Tryz.prog.cellsOf 118=1/\Tryz.prog.cellsOf 121=1/\Tryz.prog.cellsOf 150=1:=⟨by kernel_rfl,by kernel_rfl,by kernel_rfl,by kernel_rfl,by kernel_rfl,by kernel_rfl,by kernel_rfl,by kernel_rfl,by kernel_rfl,by kernel_rfl⟩
theorem n25:Tryz.prog.cellsOf 25=2:=r_
theorem n40:Tryz.prog.cellsOf 40=5:=r_
theorem n113:Tryz.prog.cellsOf 113=2:=r_
theorem n160:Tryz.prog.cellsOf 160=2:=r_
theorem n120:Tryz.prog.cellsOf 120=7:=r_
theorem n123:Tryz.prog.cellsOf 123=23:=r_
theorem akX:Tryz.prog.cellsOf 152=8:=r_
theorem n154:Tryz.prog.cellsOf 154=15:=r_
theorem n167:Tryz.prog.cellsOf 167=6:=r_
theorem n204:Tryz.prog.cellsOf 204=10:=r_
theorem kv {n:Nat}{cs:List Value}{x:DataW H×List MemPlace}(h:DataW.trod en Tryz.prog w base sp held n 3 cs=some x):∃ z:Int,cs=[.int .i64 z]/\-9223372036854775808<=z/\z<9223372036854775808:=by
 obtain⟨z,rfl,_,hw⟩:=DataW.trod_int u3x h;refine⟨z,rfl,?_⟩;simp only[Lit.wf,Bool.and_eq_true,decide_eq_true_eq]at hw;have e1:IntKind.min .i64=-9223372036854775808:=rfl;have e2:IntKind.max .i64=9223372036854775807:=rfl;omega
theorem abY {n:Nat}{cs:List Value}{x:DataW H×List MemPlace}(h:DataW.trod en Tryz.prog w base sp held n 4 cs=some x):∃ b:Bool,cs=[.bool b]:=by
 obtain⟨b,rfl,_⟩:=DataW.trod_bool u4 h;exact⟨b,rfl⟩
theorem xH {n:Nat}{cs:List Value}{x:DataW H×List MemPlace}(h:DataW.trod en Tryz.prog w base sp held n 9 cs=some x):∃ s:ByteArray,cs=[.string s]/\s.size<Rows.uptoBulk x.1:=by
 obtain⟨s,rfl,rfl,_⟩:=DataW.trod_string u9 h;refine⟨s,rfl,?_⟩;have e:s.data.toList.length=s.size:=Array.length_toList;simp only[Rows.uptoBulk];omega
theorem fH {t:TypeId}{l:List (TypeId×Nat)}(ht:Tryz.prog.underlying t=some (.struct (ux t)))(hk:fo t l){n:Nat}{cs:List Value}{x:DataW H×List MemPlace}(h:DataW.trod en Tryz.prog w base sp held n t cs=some x):
  cs.length=Tryz.prog.cellsOf t/\∃ m,n=m+1/\∃ ys:List (DataW H×List MemPlace),ys.length=l.length/\Rows.uptoBulk x.1=Rows.uptoBulkAll (ys.map (·.1))+1/\
   ∀ (i:Nat) ft o y,l[i]?=some (ft,o)->ys[i]?=some y->DataW.trod en Tryz.prog w base sp held m ft ((cs.drop o).take (Tryz.prog.cellsOf ft))=some y:=by
 obtain⟨xs,m,rfl,rfl,hl,hx,hi⟩:=DataW.trod_struct ht h;have hk:(ux t).toList.map (fun f=>(f.type,f.offset))=l:=hk;refine⟨hl,m,rfl,xs,by rw[<- hk,L_,hx];rfl,by simp only[Rows.uptoBulk],fun i ft o y e hy=>?_⟩;rw[<- hk,List.getElem?_map]at e;cases hf:(ux t).toList[i]? with
 |none=>rw[hf]at e;cases e
 |some f=>
  rw[hf]at e;simp only[Option.map_some,Option.some.injEq,Prod.mk.injEq]at e;obtain⟨rfl,rfl⟩:=e;have hf':(ux t)[i]?=some f:=by simpa using hf
  have:=hi i f hf';rw[hy]at this;exact this
theorem iJ {α:Type}{t e:TypeId}{sz:Nat}{f:α->AV}{Good:α->Prop}{mu:α->Nat}(ht:Tryz.prog.underlying t=some (.slice e))(hc:Tryz.prog.cellsOf e=sz)(hsz:0<sz)
  (hf:∀ a,(f a).cells.length=sz) (hfc:∀ a,aR (f a).cells=true) {n:Nat} {cs:List Value} {x:DataW H×List MemPlace} (h:DataW.trod en Tryz.prog w base sp held n t cs=some x) (hb:Rows.uptoBulk x.1<=1048576)
  (hel:∀ m,n=m+1->∀ cs y,DataW.trod en Tryz.prog w base sp held m e cs=some y->Rows.uptoBulk y.1<=1048576->∃ a,Good a/\mu a<=Rows.uptoBulk y.1/\aY (iC w) (f a).cells cs) :
  ∃ l:List α,(∀ a∈l,Good a)/\uy mu l<Rows.uptoBulk x.1/\l.length<Rows.uptoBulk x.1/\∃ v,cs=[v]/\bA (iC w) (.ls (l.map f)) v:=by
 rcases DataW.trod_slice ht h with⟨rfl,rfl⟩|⟨a,len,cap,iU,rest,m,rfl,rfl,rfl,hbb,hl,hm,hlen,hi,_,_⟩
 ·have:=Fh (DataW.nil (H:=H));exact⟨[],by simp,by simp only[uy];omega,by simp only[List.length_nil];omega,_,rfl,.lst0⟩
 ·have hb:Rows.uptoBulk (DataW.slice (iU.map (·.1)) (rest.map (·.1)))<=1048576:=hb;have htot:Rows.uptoBulkAll (iU.map (·.1))+1<=Rows.uptoBulk (DataW.slice (iU.map (·.1)) (rest.map (·.1))):=by simp only[Rows.uptoBulk];omega
  have key:∀ k,k<=len->∃ l:List α,l.length=k/\(∀ a∈l,Good a)/\uy mu l<=Rows.uptoBulkAll ((iU.map (·.1)).take k)/\k<=Rows.uptoBulkAll ((iU.map (·.1)).take k)/\∃ us,aY (iC w) (flat (l.map f)) us/\us.length=k*sz/\∀ i u,us[i]?=some u->w.cell? (a.add i)=some u:=by
   intro k;induction k with
   |zero=>intro _;exact⟨[],rfl,by simp,by simp[uy],by simp,[],.nil,by simp,by simp⟩
   |succ k ih=>
    intro hk;obtain⟨l,hl1,hl2,hl3,hl4,us,hv,hul,hu⟩:=ih o_;have hik:=hi k o_;have hke:k<iU.length:=o_;rw[a_ hke]at hik;obtain⟨cs',q1,q2⟩:=Option.bind_eq_some_iff.1 hik;obtain⟨_,hcl,hcells⟩:=World.cells?_some q1;have htk:(iU.map (·.1)).take (k+1)=(iU.map (·.1)).take k++[iU[k].1]:=by
     rw[List.take_add_one,List.getElem?_map,a_ hke];rfl
    have hbt:Rows.uptoBulkAll ((iU.map (·.1)).take (k+1))=Rows.uptoBulkAll ((iU.map (·.1)).take k)+Rows.uptoBulk iU[k].1:=by
     rw[htk,Fi];simp only[Rows.uptoBulkAll];omega
    have hbe:Rows.uptoBulk iU[k].1<=1048576:=by
     have:=yY (iU.map (·.1)) (k+1);omega
    have hb1:=Fh iU[k].1;obtain⟨z,hg,hmz,hz⟩:=hel m rfl cs' _ q2 hbe;refine⟨l++[z],by simp[hl1],?_,?_,o_,us++cs',?_,?_,?_⟩
    ·intro a ha;rcases List.mem_append.1 ha with h|h
     ·exact hl2 a h
     ·simp at h;subst h;exact hg
    ·rw[WC];simp only[uy];omega
    ·rw[List.map_append,fT];refine hv.append ?_;simp only[List.map_cons,List.map_nil];rw[cw,oQ,A_];exact hz
    ·rw[List.length_append,hul,hcl,hc,Nat.succ_mul]
    ·intro i u hiu;by_cases hlt:i<us.length
     ·rw[List.getElem?_append_left hlt]at hiu;exact hu i u hiu
     ·rw[List.getElem?_append_right o_]at hiu;have hi':i-us.length<cs'.length:=by
       rcases Nat.lt_or_ge (i-us.length) cs'.length with h|h
       ·exact h
       ·rw[List.getElem?_eq_none h]at hiu;cases hiu
      have:=hcells (i-us.length) o_;rw[hiu,Addr.add_add,hc]at this;rw[show k*sz+(i-us.length)=i by omega]at this;exact this
  obtain⟨l,hl1,hl2,hl3,hl4,us,hv,hul,hu⟩:=key len (e_ _);have ht1:=yY (iU.map (·.1)) len;refine⟨l,hl2,Nat.lt_of_le_of_lt (Nat.le_trans hl3 ht1) htot,Nat.lt_of_le_of_lt (Nat.le_trans (by rw[hl1];exact hl4) ht1) htot,_,rfl,?_⟩;by_cases h0:len=0
  ·have:l=[]:=List.length_eq_zero_iff.1 o_;subst this;subst h0;exact .lst0
  ·have hpos:0<us.length:=by rw[hul];exact Nat.mul_pos o_ hsz
   have hspot:=World.cell?_spot (hu 0 _ (a_ hpos));rw[show a.add 0=a by simp[Addr.add]]at hspot;obtain⟨b,off,spot⟩:=a;simp only at hspot;subst hspot;refine .ls (sz:=sz) ?_ ?_ (by simp[hl1]) (by simp[hl1];omega) (eu.mk hv fun i u hiu=>?_)
   ·intro e he;obtain⟨a,_,rfl⟩:=List.mem_map.1 he;exact hf a
   ·rw[dc];intro c hc;clear hv key hl1 hl2 hl3 hl4;induction l with
    |nil=>simp[oQ]at hc
    |cons a l ih=>
     rw[List.map_cons,cw,List.mem_append]at hc;rcases hc with hc|hc
     ·exact(dc _).1 (hfc a) c hc
     ·exact ih hc
   ·have:=hu i u hiu;rw[show(⟨b,off,none⟩:Addr).add i=⟨b,off+i,none⟩ by unfold Addr.add;split<;>simp_all]at this;exact this
end
theorem VZ (a:LV):(bV a).cells.length=2:=rfl
theorem Sg (a:LV):aR (bV a).cells=true:=rfl
theorem Wc (a:LL):(ba a).cells.length=2:=rfl
theorem Sh (a:LL):aR (ba a).cells=true:=rfl
theorem wM (a:T):aR (enc a).cells=true:=by cases a;rw[BI];rfl
theorem GA (a:CtV):aR (hT a).cells=true:=rfl
theorem Gx (a:FnV):aR (fQ a).cells=true:=rfl
theorem Sl (a:DV):aR (bW a).cells=true:=rfl
theorem GB (a:Br):aR (nL a).cells=true:=by rw[lq];cases a;rfl
theorem di {α:Type}{l:List α}{n:Nat}(h:l.length=n){i:Nat}(hi:i<n):∃ y,l[i]?=some y:=⟨_,a_ o_⟩
theorem GN {H:Type}{ds:List (DataW H)}{i:Nat}{d:DataW H}(h:ds[i]?=some d):Rows.uptoBulk d<=Rows.uptoBulkAll ds:=by
 induction ds generalizing i with
 |nil=>cases h
 |cons x r ih=>
  simp only[Rows.uptoBulkAll];cases i with
  |zero=>cases h;omega
  |succ i=>have:=ih (i:=i) h;omega
section
variable {H:Type}{en:TypeId×Value->H}{w:World}{base:Nat}{sp:Nat->Bool}{held:Bool}
theorem rd_V {n:Nat}{cs:List Value}{x:DataW H×List MemPlace}(h:DataW.trod en Tryz.prog w base sp held n 160 cs=some x):∃ a:LV,True/\0<=Rows.uptoBulk x.1/\aY (iC w) (bV a).cells cs:=by
 obtain⟨hl,m,rfl,ys,hy,hb,hf⟩:=fH u160 k160 h;rw[n160]at hl;obtain⟨y0,q0⟩:=di hy (i:=0) (by decide);obtain⟨y1,q1⟩:=di hy (i:=1) (by decide);have h0:=hf 0 3 0 y0 rfl q0;have h1:=hf 1 3 1 y1 rfl q1;rw[n1.1]at h0 h1;obtain⟨z0,e0,_⟩:=kv h0;obtain⟨z1,e1,_⟩:=kv h1;refine⟨⟨z0,z1⟩,trivial,Nat.zero_le _,?_⟩;refine PV.all (L:=[([i_ z0],1),([i_ z1],1)]) ⟨?_,?_,?_⟩
 ·rw[show cs.take 1=(cs.drop 0).take 1 from rfl,e0];exact .cons (.int _ _) .nil
 ·rw[e1];exact .cons (.int _ _) .nil
 ·exact List.drop_eq_nil_of_le (by rw[List.length_drop];omega)
theorem adN (t:T):(enc t).cells=aJ t:=by rw[aU];rfl
theorem eW {l:List (DataW H×List MemPlace)}{i:Nat}{y:DataW H×List MemPlace}(h:l[i]?=some y):Rows.uptoBulk y.1<=Rows.uptoBulkAll (l.map (·.1)):=GN (i:=i) (by rw[List.getElem?_map,h];rfl)
theorem rd_L {n:Nat}{cs:List Value}{x:DataW H×List MemPlace}(h:DataW.trod en Tryz.prog w base sp held n 113 cs=some x)(hx:Rows.uptoBulk x.1<=1048576):∃ a:LL,a.vars.length<10000000/\0<=Rows.uptoBulk x.1/\aY (iC w) (ba a).cells cs:=by
 obtain⟨hl,m,rfl,ys,hy,hb,hf⟩:=fH u113 k113 h;rw[n113]at hl;obtain⟨y0,q0⟩:=di hy (i:=0) (by decide);obtain⟨y1,q1⟩:=di hy (i:=1) (by decide);have h0:=hf 0 3 0 y0 rfl q0;have h1:=hf 1 111 1 y1 rfl q1;have p1:=eW q1;rw[n1.1]at h0;rw[n1.2.2.2.2.2.2.1]at h1;obtain⟨z0,e0,_⟩:=kv h0;obtain⟨l,_,_,hlen,v,e1,hv⟩:=iJ (f:=bV) (Good:=fun _=>True) (mu:=fun _=>0) u111 n160 o_ VZ Sg h1 o_ (fun m _ cs y hy _=>rd_V hy);refine⟨⟨z0,l⟩,by show l.length<10000000;omega,Nat.zero_le _,?_⟩;refine PV.all (L:=[([i_ z0],1),([.ls (l.map bV)],1)]) ⟨?_,?_,?_⟩
 ·rw[show cs.take 1=(cs.drop 0).take 1 from rfl,e0];exact .cons (.int _ _) .nil
 ·rw[e1];exact .cons hv .nil
 ·exact List.drop_eq_nil_of_le (by rw[List.length_drop];omega)
theorem Tf:∀ (n:Nat) {cs:List Value} {x:DataW H×List MemPlace},DataW.trod en Tryz.prog w base sp held n 40 cs=some x->Rows.uptoBulk x.1<=1048576->∃ t:T,BT t/\size t<=Rows.uptoBulk x.1/\aY (iC w) (enc t).cells cs:=by
 intro n;induction n using Nat.strongRecOn with
 |ind n ih=>
  intro cs x h hx;obtain⟨hl,m,rfl,ys,hy,hb,hf⟩:=fH u40 k40 h;rw[n40]at hl;obtain⟨y0,q0⟩:=di hy (i:=0) (by decide);obtain⟨y1,q1⟩:=di hy (i:=1) (by decide);obtain⟨y2,q2⟩:=di hy (i:=2) (by decide);obtain⟨y3,q3⟩:=di hy (i:=3) (by decide);obtain⟨y4,q4⟩:=di hy (i:=4) (by decide);have h0:=hf 0 3 0 y0 rfl q0;have h1:=hf 1 3 1 y1 rfl q1;have h2:=hf 2 9 2 y2 rfl q2;have h3:=hf 3 38 3 y3 rfl q3;have h4:=hf 4 23 4 y4 rfl q4;have p2:=eW q2;have p3:=eW q3;have p4:=eW q4;rw[n1.1]at h0 h1;rw[n1.2.2.1]at h2;rw[n1.2.2.2.2.2.1]at h3;rw[n1.2.2.2.2.1]at h4;obtain⟨z0,e0,_⟩:=kv h0;obtain⟨z1,e1,r1,r2⟩:=kv h1;obtain⟨s,e2,hs⟩:=xH h2;obtain⟨ls,g3,_,b3,v3,e3,r3⟩:=iJ (f:=ba) (Good:=fun a=>a.vars.length<10000000) (mu:=fun _=>0) u38 n113 o_ Wc Sh h3 o_ (fun m _ cs y hy hby=>rd_L hy hby);obtain⟨ks,g4,b4,b4',v4,e4,r4⟩:=iJ (f:=enc) (Good:=BT) (mu:=size) u23 n40 o_ bJ wM h4 o_ (fun m' hm cs y hy hby=>ih m' o_ hy hby);refine⟨.mk z0 z1 s ls ks,.mk _ (by show s.size<_;omega) (by show ls.length<_;omega) g3 r1 r2 g4,?_,?_⟩
  ·rw[size,uB];omega
  ·rw[adN];refine PV.all (L:=[([i_ z0],1),([i_ z1],1),([.str s],1),([.ls (ls.map ba)],1),([.ls (ks.map enc)],1)]) ⟨?_,?_,?_,?_,?_,?_⟩
   ·rw[show cs.take 1=(cs.drop 0).take 1 from rfl,e0];exact .cons (.int _ _) .nil
   ·rw[e1];exact .cons (.int _ _) .nil
   ·simp only[List.drop_drop,Nat.reduceAdd];rw[e2];exact .cons (.str _) .nil
   ·simp only[List.drop_drop,Nat.reduceAdd];rw[e3];exact .cons r3 .nil
   ·simp only[List.drop_drop,Nat.reduceAdd];rw[e4];exact .cons r4 .nil
   ·simp only[List.drop_drop,Nat.reduceAdd];exact List.drop_eq_nil_of_le o_
theorem rd_C {n:Nat}{cs:List Value}{x:DataW H×List MemPlace}(h:DataW.trod en Tryz.prog w base sp held n 167 cs=some x)(hx:Rows.uptoBulk x.1<=1048576):∃ a:CtV,(BT a.type/\size a.type<=1048576)/\0<=Rows.uptoBulk x.1/\aY (iC w) (hT a).cells cs:=by
 obtain⟨hl,m,rfl,ys,hy,hb,hf⟩:=fH u167 k167 h;rw[n167]at hl;obtain⟨y0,q0⟩:=di hy (i:=0) (by decide);obtain⟨y1,q1⟩:=di hy (i:=1) (by decide);have h0:=hf 0 9 0 y0 rfl q0;have h1:=hf 1 40 1 y1 rfl q1;have p1:=eW q1;rw[n1.2.2.1]at h0;rw[n40]at h1;obtain⟨s,e0,_⟩:=xH h0;obtain⟨t,bt,st,vt⟩:=Tf _ h1 o_;rw[adN]at vt;refine⟨⟨s,t⟩,⟨bt,by show size t<=_;omega⟩,Nat.zero_le _,?_⟩;refine PV.all (L:=[([.str s],1),(aJ t,5)]) ⟨?_,?_,?_⟩
 ·rw[show cs.take 1=(cs.drop 0).take 1 from rfl,e0];exact .cons (.str _) .nil
 ·exact vt
 ·simp only[List.drop_drop,Nat.reduceAdd];exact List.drop_eq_nil_of_le o_
theorem QB:∀ {l:List Br},(∀ b∈l,BTr (brT b))->Tq l
 |[],_=>by unfold Tq;trivial
 |.mk c a t::l,h=>by
  unfold Tq;exact⟨h _ (List.mem_cons_self ..),QB fun b hb=>h b (List.mem_cons_of_mem _ hb)⟩
theorem Ui (l:List Br):tss l=uy (fun b=>1+ts (brT b)) l:=by
 induction l with
 |nil=>rw[tss];rfl
 |cons b l ih=>obtain⟨c,a,t⟩:=b;rw[tss,uy,ih];rfl
theorem of4 {α:Type}{l:List α}(h:l.length=4):∃ a b c d,l=[a,b,c,d]:=by
 match l,h with
 |[a,b,c,d],_=>exact⟨a,b,c,d,rfl⟩
theorem rd_Tr:∀ (n:Nat) {cs:List Value} {x:DataW H×List MemPlace},DataW.trod en Tryz.prog w base sp held n 152 cs=some x->Rows.uptoBulk x.1<=1048576->∃ t:eY,BTr t/\ts t<=Rows.uptoBulk x.1/\aY (iC w) (bu t) cs:=by
 intro n;induction n using Nat.strongRecOn with
 |ind n ih=>
  intro cs x h hx;obtain⟨hl,m,rfl,ys,hy,hb,hf⟩:=fH u152 k152 h;rw[akX]at hl;obtain⟨y0,y1,y2,y3,rfl⟩:=of4 hy;simp only[List.map_cons,List.map_nil,Rows.uptoBulkAll]at hb;have h0:=hf 0 3 0 y0 rfl rfl;have h1:=hf 1 40 1 y1 rfl rfl;have h2:=hf 2 3 6 y2 rfl rfl;have h3:=hf 3 150 7 y3 rfl rfl;rw[n1.1]at h0 h2;rw[n40]at h1;rw[n1.2.2.2.2.2.2.2.2.2]at h3;obtain⟨z0,e0,_⟩:=kv h0;obtain⟨z2,e2,_⟩:=kv h2;obtain⟨t,bt,st,vt⟩:=Tf _ h1 o_;obtain⟨bs_,g3,b3,b3',v3,e3,r3⟩:=iJ (f:=nL) (Good:=fun b=>BTr (brT b)) (mu:=fun b=>1+ts (brT b)) u150 n204 o_ ml GB h3 o_ (fun m' hm cs y hy hby=>by
   obtain⟨hl,k,rfl,zs,hz,hbz,hg⟩:=fH u204 k204 hy;rw[n204]at hl;obtain⟨x0,q0⟩:=di hz (i:=0) (by decide);obtain⟨x1,q1⟩:=di hz (i:=1) (by decide);obtain⟨x2,q2⟩:=di hz (i:=2) (by decide);have g0:=hg 0 9 0 x0 rfl q0;have g1:=hg 1 4 1 x1 rfl q1;have g2:=hg 2 152 2 x2 rfl q2;have p2:=eW q2;rw[n1.2.2.1]at g0;rw[n1.2.1]at g1;rw[akX]at g2;obtain⟨s,f0,_⟩:=xH g0;obtain⟨b,f1⟩:=abY g1;obtain⟨tr,btr,str_,vtr⟩:=ih k o_ g2 o_;refine⟨.mk s b tr,btr,by show 1+ts tr<=_;omega,?_⟩;rw[lq];refine PV.all (L:=[([.str s],1),([.bool b],1),(bu tr,8)]) ⟨?_,?_,?_,?_⟩
   ·rw[show cs.take 1=(cs.drop 0).take 1 from rfl,f0];exact .cons (.str _) .nil
   ·rw[f1];exact .cons (.bool _) .nil
   ·simp only[List.drop_drop,Nat.reduceAdd];exact vtr
   ·simp only[List.drop_drop,Nat.reduceAdd];exact List.drop_eq_nil_of_le o_)
  rw[adN]at vt;refine⟨.mk z0 t z2 bs_,by unfold BTr;exact⟨bt,QB g3⟩,by rw[ts,Ui];omega,?_⟩;refine PV.all (L:=[([i_ z0],1),(aJ t,5),([i_ z2],1),([.ls (bs_.map nL)],1)]) ⟨?_,?_,?_,?_,?_⟩
  ·rw[show cs.take 1=(cs.drop 0).take 1 from rfl,e0];exact .cons (.int _ _) .nil
  ·exact vt
  ·simp only[List.drop_drop,Nat.reduceAdd];rw[e2];exact .cons (.int _ _) .nil
  ·simp only[List.drop_drop,Nat.reduceAdd];rw[e3];exact .cons r3 .nil
  ·simp only[List.drop_drop,Nat.reduceAdd];exact List.drop_eq_nil_of_le o_
theorem rd_F {n:Nat}{cs:List Value}{x:DataW H×List MemPlace}(h:DataW.trod en Tryz.prog w base sp held n 154 cs=some x)(hx:Rows.uptoBulk x.1<=1048576):∃ a:FnV,((BT a.type/\BTr a.tree)/\size a.type<=1048576/\ts a.tree<=1048576)/\0<=Rows.uptoBulk x.1/\aY (iC w) (fQ a).cells cs:=by
 obtain⟨hl,m,rfl,ys,hy,hb,hf⟩:=fH u154 k154 h;rw[n154]at hl;obtain⟨y0,q0⟩:=di hy (i:=0) (by decide);obtain⟨y1,q1⟩:=di hy (i:=1) (by decide);obtain⟨y2,q2⟩:=di hy (i:=2) (by decide);obtain⟨y3,q3⟩:=di hy (i:=3) (by decide);have h0:=hf 0 9 0 y0 rfl q0;have h1:=hf 1 40 1 y1 rfl q1;have h2:=hf 2 3 6 y2 rfl q2;have h3:=hf 3 152 7 y3 rfl q3;have p1:=eW q1;have p3:=eW q3;rw[n1.2.2.1]at h0;rw[n40]at h1;rw[n1.1]at h2;rw[akX]at h3;obtain⟨s,e0,_⟩:=xH h0;obtain⟨t,bt,st,vt⟩:=Tf _ h1 o_;obtain⟨z2,e2,_⟩:=kv h2;obtain⟨tr,btr,str_,vtr⟩:=rd_Tr _ h3 o_;rw[adN]at vt;refine⟨⟨s,t,z2,tr⟩,⟨⟨bt,btr⟩,by show size t<=_;omega,by show ts tr<=_;omega⟩,Nat.zero_le _,?_⟩;refine PV.all (L:=[([.str s],1),(aJ t,5),([i_ z2],1),(bu tr,8)]) ⟨?_,?_,?_,?_,?_⟩
 ·rw[show cs.take 1=(cs.drop 0).take 1 from rfl,e0];exact .cons (.str _) .nil
 ·exact vt
 ·simp only[List.drop_drop,Nat.reduceAdd];rw[e2];exact .cons (.int _ _) .nil
 ·simp only[List.drop_drop,Nat.reduceAdd];exact vtr
 ·simp only[List.drop_drop,Nat.reduceAdd];exact List.drop_eq_nil_of_le o_
theorem rd_D {n:Nat}{cs:List Value}{x:DataW H×List MemPlace}(h:DataW.trod en Tryz.prog w base sp held n 123 cs=some x)(hx:Rows.uptoBulk x.1<=1048576):∃ a:DV,(PD 1048576 a/\BD a)/\0<=Rows.uptoBulk x.1/\aY (iC w) (bW a).cells cs:=by
 obtain⟨hl,m,rfl,ys,hy,hb,hf⟩:=fH u123 k123 h;rw[n123]at hl;obtain⟨y0,q0⟩:=di hy (i:=0) (by decide);obtain⟨y1,q1⟩:=di hy (i:=1) (by decide);obtain⟨y2,q2⟩:=di hy (i:=2) (by decide);obtain⟨y3,q3⟩:=di hy (i:=3) (by decide);obtain⟨y4,q4⟩:=di hy (i:=4) (by decide);obtain⟨y5,q5⟩:=di hy (i:=5) (by decide);obtain⟨y6,q6⟩:=di hy (i:=6) (by decide);obtain⟨y7,q7⟩:=di hy (i:=7) (by decide);obtain⟨y8,q8⟩:=di hy (i:=8) (by decide);have h0:=hf 0 3 0 y0 rfl q0;have h1:=hf 1 9 1 y1 rfl q1;have h2:=hf 2 3 2 y2 rfl q2;have h3:=hf 3 40 3 y3 rfl q3;have h4:=hf 4 40 8 y4 rfl q4;have h5:=hf 5 3 13 y5 rfl q5;have h6:=hf 6 118 14 y6 rfl q6;have h7:=hf 7 120 15 y7 rfl q7;have h8:=hf 8 121 22 y8 rfl q8;have p3:=eW q3;have p4:=eW q4;have p6:=eW q6;have p7:=eW q7;have p8:=eW q8;rw[n1.1]at h0 h2 h5;rw[n1.2.2.1]at h1;rw[n40]at h3 h4;rw[n1.2.2.2.2.2.2.2.1]at h6;rw[n120]at h7;rw[n1.2.2.2.2.2.2.2.2.1]at h8;obtain⟨z0,e0,_⟩:=kv h0;obtain⟨s,e1,_⟩:=xH h1;obtain⟨z2,e2,_⟩:=kv h2;obtain⟨t3,bt3,st3,vt3⟩:=Tf _ h3 o_;obtain⟨t4,bt4,st4,vt4⟩:=Tf _ h4 o_;obtain⟨z5,e5,_⟩:=kv h5;obtain⟨cs6,g6,_,b6,v6,e6,r6⟩:=iJ (f:=hT) (Good:=fun a=>BT a.type/\size a.type<=1048576) (mu:=fun _=>0) u118 n167 o_ fN GA h6 o_ (fun m _ cs y hy hby=>rd_C hy hby);obtain⟨fs,g8,_,b8,v8,e8,r8⟩:=iJ (f:=fQ) (Good:=fun a=>(BT a.type/\BTr a.tree)/\size a.type<=1048576/\ts a.tree<=1048576) (mu:=fun _=>0) u121 n154 o_ gj Gx h8 o_ (fun m _ cs y hy hby=>rd_F hy hby);obtain⟨hl7,m7,_,ys7,hy7,hb7,hf7⟩:=fH u120 k120 h7;obtain⟨x0,r0⟩:=di hy7 (i:=0) (by decide);obtain⟨x1,r1⟩:=di hy7 (i:=1) (by decide);obtain⟨x2,r2⟩:=di hy7 (i:=2) (by decide);have f0:=hf7 0 3 0 x0 rfl r0;have f1:=hf7 1 40 1 x1 rfl r1;have f2:=hf7 2 23 6 x2 rfl r2;have w1:=eW r1;have w2:=eW r2;rw[n1.1]at f0;rw[n40]at f1;rw[n1.2.2.2.2.1]at f2;obtain⟨rp,er,_⟩:=kv f0;obtain⟨rt,btr,str_,vtr⟩:=Tf _ f1 o_;obtain⟨rs,gr,_,br,vr,err,rr⟩:=iJ (f:=enc) (Good:=fun t=>BT t/\size t<=1048576) (mu:=fun _=>0) u23 n40 o_ bJ wM f2 o_ (fun m' hm cs y hy hby=>by
  obtain⟨t,a,b,c⟩:=Tf _ hy hby;exact⟨t,⟨a,o_⟩,Nat.zero_le _,c⟩)
 rw[adN]at vt3 vt4 vtr;refine⟨⟨z0,s,z2,t3,t4,z5,cs6,rp,rt,rs,fs⟩,⟨⟨?_,?_,?_,?_,?_,?_,fun c hc=>(g6 c hc).2,fun r hr=>(gr r hr).2,fun f hf=>(g8 f hf).2⟩,bt3,bt4,btr,fun c hc=>(g6 c hc).1,fun r hr=>(gr r hr).1,fun f hf=>⟨(g8 f hf).1.1,(g8 f hf).1.2,by have:=(g8 f hf).2.2;omega⟩⟩,Nat.zero_le _,?_⟩
 ·show size t3<=_;omega
 ·show size t4<=_;omega
 ·show size rt<=_;omega
 ·show cs6.length<=_;omega
 ·show rs.length<=_;omega
 ·show fs.length<=_;omega
 have dt:∀ {a b c:Nat},b+c<=7->a=15+b->((cs.drop 15).take 7 |>.drop b).take c=(cs.drop a).take c:=by
  rintro a b c h rfl;rw[List.drop_take,List.drop_drop,List.take_take,Nat.min_eq_left o_]
 rw[dt o_ rfl]at er err vtr;refine PV.all (L:=[([i_ z0],1),([.str s],1),([i_ z2],1),(aJ t3,5),(aJ t4,5),([i_ z5],1),([.ls (cs6.map hT)],1),([i_ rp],1),(aJ rt,5),([.ls (rs.map enc)],1),([.ls (fs.map fQ)],1)]) ⟨?_,?_,?_,?_,?_,?_,?_,?_,?_,?_,?_,?_⟩
 ·rw[show cs.take 1=(cs.drop 0).take 1 from rfl,e0];exact .cons (.int _ _) .nil
 ·rw[e1];exact .cons (.str _) .nil
 ·simp only[List.drop_drop,Nat.reduceAdd];rw[e2];exact .cons (.int _ _) .nil
 ·simp only[List.drop_drop,Nat.reduceAdd];exact vt3
 ·simp only[List.drop_drop,Nat.reduceAdd];exact vt4
 ·simp only[List.drop_drop,Nat.reduceAdd];rw[e5];exact .cons (.int _ _) .nil
 ·simp only[List.drop_drop,Nat.reduceAdd];rw[e6];exact .cons r6 .nil
 ·simp only[List.drop_drop,Nat.reduceAdd];rw[er];exact .cons (.int _ _) .nil
 ·simp only[List.drop_drop,Nat.reduceAdd];exact vtr
 ·simp only[List.drop_drop,Nat.reduceAdd];rw[err];exact .cons rr .nil
 ·simp only[List.drop_drop,Nat.reduceAdd];rw[e8];exact .cons r8 .nil
 ·simp only[List.drop_drop,Nat.reduceAdd];exact List.drop_eq_nil_of_le o_
theorem rd_G {n:Nat}{cs:List Value}{x:DataW H×List MemPlace}(h:DataW.trod en Tryz.prog w base sp held n 25 cs=some x)(hx:Rows.uptoBulk x.1<=1048576):∃ (env:List DV) (l:List T),PE 1048576 env/\PT 1048576 l/\aY (iC w) (nK env l).cells cs:=by
 obtain⟨hl,m,rfl,ys,hy,hb,hf⟩:=fH u25 k25 h;rw[n25]at hl;obtain⟨y0,q0⟩:=di hy (i:=0) (by decide);obtain⟨y1,q1⟩:=di hy (i:=1) (by decide);have h0:=hf 0 22 0 y0 rfl q0;have h1:=hf 1 23 1 y1 rfl q1;have p0:=eW q0;have p1:=eW q1;rw[n1.2.2.2.1]at h0;rw[n1.2.2.2.2.1]at h1;obtain⟨env,g0,_,b0,v0,e0,r0⟩:=iJ (f:=bW) (Good:=fun a=>PD 1048576 a/\BD a) (mu:=fun _=>0) u22 n123 o_ eL Sl h0 o_ (fun m _ cs y hy hby=>rd_D hy hby);obtain⟨l,g1,b1,b1',v1,e1,r1⟩:=iJ (f:=enc) (Good:=BT) (mu:=size) u23 n40 o_ bJ wM h1 o_ (fun m' hm cs y hy hby=>Tf _ hy hby);refine⟨env,l,⟨fun d hd=>(g0 d hd).1,fun d hd=>(g0 d hd).2,o_⟩,⟨by rw[uB];omega,g1⟩,?_⟩;refine PV.all (L:=[([.ls (env.map bW)],1),([.ls (l.map enc)],1)]) ⟨?_,?_,?_⟩
 ·rw[show cs.take 1=(cs.drop 0).take 1 from rfl,e0];exact .cons r0 .nil
 ·rw[e1];exact .cons r1 .nil
 ·simp only[List.drop_drop,Nat.reduceAdd];exact List.drop_eq_nil_of_le o_
end
end Go.Proofs.YtocdlbblemjabaaGreatDoor
namespace Go.Proofs.YtocdlbblemjabaaGreatDoor
open Go.ChangeShapes Go.WideShapes Go.ChangeAt Go.RowKit Go.Proofs
theorem law7 (env:List DV)(l:List AG.T)(pe:PE 1048576 env)(pt:PT 1048576 l)(h:AG.AH):
  ∃ v h',AG.lE EG (cS KU 200000000) 1000000000000 (7) [nK env l] .no h=some (.ret v,.no,h')/\v=.bool true:=
 AG.xQ aj9 (Ck (7)) (abU adC KU_KM KU_KG KU_KS KU_KA 1048576 200000000 env l pe pt (by decide) (by decide) h)
theorem ake (env:List DV)(l:List AG.T)(pe:PE 1048576 env)(pt:PT 1048576 l)(W:World)(us:List Value)(ha:AG.aY (AG.iC W) [nK env l] us)(hW:Lib.TabIs Tryz.prog W "internal/strconv.uint64pow10" .u64 Lib.pow10Tab) :
  Calls Tryz.prog 7 ⟨us⟩ W fun e W'=>e=.returned (.bool true)/\(∀ b,b<W.heap.size->W'.heap[b]?=W.heap[b]?)/\W'.os=W.os/\W'.output=W.output:=by
 obtain⟨v,h',q,rfl⟩:=law7 env l pe pt AG.rF;refine(AG.CU (afA KU_ok 200000000) hEG q (AG.QJ CI W hW) ha).mono fun e W' hp=>?_
 obtain⟨u,g',U',rfl,hx,hr,hs⟩:=hp;cases hr;have hw0:g'.w0=W:=hx.w0;refine⟨rfl,fun b hb=>?_,?_,?_⟩
 ·rw[<- hw0];exact hs.old b (by rw[hw0];exact hb)
 ·rw[<- hw0];exact hs.os
 ·rw[<- hw0];exact hs.output
theorem g0:Tryz.prog.globalNamed "internal/strconv.uint64pow10" = some 0:=r_
theorem t0':(Tryz.prog.globals[0]?).map (·.type)=some 276:=r_
theorem c276:Tryz.prog.cellsOf 276=20:=r_
theorem c270:Tryz.prog.cellsOf 270=1:=r_
theorem adV {W:World}(h:laidMetH Tryz.prog Rows.machineKeepsUptoRow.laid W):Lib.TabIs Tryz.prog W "internal/strconv.uint64pow10" .u64 Lib.pow10Tab:=by
 have h:laidMet Tryz.prog Rows.machineKeepsUptoRow.laid W:=h;have h2:=h.filter fun x=>x.1 == "internal/strconv.uint64pow10"
 have e:Rows.machineKeepsUptoRow.laid.filter (fun x=>x.1 == "internal/strconv.uint64pow10")=[("internal/strconv.uint64pow10",Lib.tabData .u64 Lib.pow10Tab)]:=r_;rw[e]at h2;exact Lib.tabIs_of_head (rest:=[]) g0 t0' Tryz.underlying276 Tryz.underlying270 c270 c276 h2
theorem ps7:Tryz.f7.params.toList=[25]:=r_
theorem rs7:Tryz.f7.resultTypes=#[4]:=r_
theorem rr25:Tryz.prog.readableRec 25=true:=r_
theorem z25:25<Tryz.prog.types.size:=of_decide_eq_true (by kernel_rfl)
theorem abJ {W W':World}(h:∀ b,b<W.heap.size->W'.heap[b]?=W.heap[b]?){p:MemPlace}(hp:p.block<W.heap.size):W.sameAt W' p:=by
 cases p with
 |cell b o=>exact World.cell?_of_block (w:=W) (h b hp)
 |map b=>exact h b hp
theorem acK {W W':World}(h:∀ b,b<W.heap.size->W'.heap[b]?=W.heap[b]?)(ho:W'.os=W.os)(hu:W'.output=W.output)(may:MemPlace->Prop):W.keptBut W' may:=by
 refine⟨ho,hu,fun i hi=>?_⟩;rw[h i hi];split<;>simp_all
theorem afq:laidOutB Tryz.prog=true:=r_
theorem own7:ownKnob Tryz.prog.godebug=none:=r_
set_option maxRecDepth 100000 in
theorem Ss (H:Type)(enc:TypeId×Value->H)(W:World)(base:Nat)(args:Array Value)(ds gs:List (DataW H))(before:List MemPlace)
  (hval0:∀ (j:Nat) t v,Tryz.f7.params[j]?=some t->args[j]?=some v->Value.okWide Tryz.prog W .any base t v)
  (hW:DataW.Whole enc Tryz.prog Tryz.f7.params.toList Rows.machineKeepsSpec.vars false W args.toList ds gs before) (hk:Rows.uptoSmall H (ds++gs)=true) (hL:laidMetH Tryz.prog Rows.machineKeepsUptoRow.laid W) :
  Calls Tryz.prog 7 args W fun e W'=>∃ v,e=.returned v/\Rows.machineKeepsSpec.post enc Tryz.prog Tryz.f7 false true false false W args v W':=by
 have hval:∀ (j:Nat) t v,Tryz.f7.params[j]?=some t->args[j]?=some v->Value.okWide Tryz.prog W .any base t v:=hval0
 clear hval0;have hW':=hW;obtain⟨p,q,hA0,hV,rfl,_,_⟩:=hW;have hA:DataW.TrodAll enc Tryz.prog W 0 (fun _=>true) true Tryz.f7.params.toList args.toList ds p:=hA0;clear hA0;rw[ps7]at hA;obtain⟨v0,vs0,d0,ds0,p0,q0,hargs,rfl,rfl,h0,r0⟩:=trodAll_cons hA;obtain⟨rfl,rfl,rfl⟩:=trodAll_nil r0;obtain rfl:args=#[v0]:=by cases args;simp_all
 obtain⟨rfl,rfl⟩:=trodVars_none hV;have hp7:∀ j:Nat,Tryz.f7.params[j]?=([25]:List TypeId)[j]?:=fun j=>by rw[<- ps7,Array.getElem?_toList]
 obtain⟨cs0,rfl,_⟩:=okWide_struct u25 (hval 0 25 v0 (by rw[hp7];rfl) rfl);obtain⟨n0,q0⟩:=h0;have hb:Rows.uptoBulk d0<=1048576:=by
  have h:=of_decide_eq_true hk;simp only[List.append_nil,Rows.uptoBulkAll]at h;omega
 obtain⟨env,l,pe,pt,hs⟩:=rd_G (n:=n0) (x:=(d0,p0)) q0 hb;have hs:AG.bA (AG.iC W) (nK env l) (.agg cs0):=by
  have hs:AG.aY (AG.iC W) (nK env l).cells cs0.toList:=hs;have e:cs0=⟨cs0.toList⟩:=by cases cs0;rfl
  rw[e];exact .agg rfl hs
 have hlt:∀ x∈p0,x.block<W.heap.size:=fun x hx=>by simpa using hW'.lt x (by simpa using hx)
 refine(ake env l pe pt W [.agg cs0] (.cons hs .nil) (adV hL)).mono fun e W' ⟨he,hb,ho,hu⟩=>?_
 subst he;have hr:Tryz.f7.resultTypes=#[4]:=rs7;refine⟨_,rfl,_,_,_,[],p0++[],[],hW',?_,?_,rfl,acK hb ho hu _,fun h=>by cases h⟩
 ·show DataW.TrodAll enc Tryz.prog W' _ _ _ Tryz.f7.resultTypes.toList ((Value.bool true).resultList Tryz.f7.resultTypes.size) [.lit (.bool true)] [];rw[hr];exact trodAll_mk1 (shut_bool u4 true)
 ·show DataW.TrodAll enc Tryz.prog W' 0 _ true Tryz.f7.params.toList _ [d0] _;rw[ps7];exact trodAll_cons_mk (WideElems.Trod_stays afq rr25 z25 ⟨n0,q0⟩ (fun x hx=>abJ hb (hlt x hx)) (fun x hx=>by simpa using hlt x hx)) trodAll_mk0
def Wr (d:DataW Unit):Array Value:=match d with
 |.agg ps=>(ps.map fun|.lit (.int k n)=>Value.int k n|_=>Value.nilIface).toArray
 |_=>#[]
def ez (d:DataW Unit):Obj->Obj
 |.cells _ t frozen=>.cells (Wr d) t frozen
 |o=>o
def tx (os:Os):World:=
 {World.holding Tryz.prog os ⟨#[],#[],[]⟩ with heap:=(((World.holding Tryz.prog os ⟨#[],#[],[]⟩).heap.modify 0 (ez Rows.laid_internal_strconv_uint64pow10)).modify 1 (ez Rows.laid_math_bits_deBruijn32tab)).modify 2 (ez Rows.laid_math_bits_deBruijn64tab)}
def ahE:Value:=.agg #[.slice none 0 0,.slice none 0 0]
theorem VA (os:Os):laidMet Tryz.prog Rows.machineKeepsUptoRow.laid ((tx os).forCall (fun _ _=>0) ⟨#[],#[ahE],[]⟩).memory:=
 laidMet_of_run' 8 (by kernel_rfl) (by kernel_rfl)
theorem reads (os:Os){H:Type}(enc:TypeId×Value->H):∃ places,DataW.whole enc Tryz.prog ((tx os).forCall (fun _ _=>0) ⟨#[],#[ahE],[]⟩).memory Tryz.f7.params.toList Rows.machineKeepsSpec.vars false #[ahE].toList 8=some ([.agg [.nil,.nil]],[],places):=
 ⟨[],by kernel_rfl⟩
set_option maxRecDepth 100000 in
theorem Gg (os:Os)(started:os.Started)(H:Type)(enc:TypeId×Value->H)(F:Stop.Interp):
  ReturnsInHanded {} Tryz.checked os 7 .any ((Rows.OpenSpec.upto Rows.machineKeepsSpec).preRow enc Tryz.prog Tryz.f7 Rows.machineKeepsUptoRow.domain false Rows.machineKeepsUptoRow.laid) (((Rows.OpenSpec.upto Rows.machineKeepsSpec).at F).post enc Tryz.prog Tryz.f7 false true false false):=by
 obtain⟨places,hx⟩:=reads os enc;refine returnsInHanded_of_row (C:=Tryz.checked) (s:=Rows.OpenSpec.upto Rows.machineKeepsSpec) own7 started (by kernel_rfl) Tryz.func7
  (witness_row_at (enc:=enc) (C:=Tryz.checked) false (tx os) #[ahE] rfl (by kernel_rfl) (by kernel_rfl) (by kernel_rfl)
   (OpenSpec.preRow_of_cond 8 hx (by kernel_rfl) (fun k hk=>by cases hk;kernel_rfl) (by kernel_rfl) (VA os))) ?_
 intro W base args ds gs before hval hW _ hcond _ hL _ _;exact Ss H enc W base args ds gs before hval hW (hcond _ rfl) hL
