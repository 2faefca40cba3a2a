/- Lemmas for MachineOrders (no condition). -/
import Derived.Test.YtocdlbblemjabaaGreatDoorCb
import Derived.Test.YtocdlbblemjabaaGreatDoorRows
import Derived.ProofKit
import Derived.SizedLaws
set_option linter.defProp false
namespace Go.Proofs.YtocdlbblemjabaaGreatDoor
open Go.AG Go.AG.MK Go.Proofs Go.Proofs.Tryz
def Ib {H:Type}(d:DataW H):1<=Rows.uptoBulk d:=by
 cases d with
 |lit l=>cases l<;>simp[Rows.uptoBulk]
 |nil=>simp[Rows.uptoBulk]
 |ptr d=>simp[Rows.uptoBulk]
 |slice lN b=>simp[Rows.uptoBulk]
 |agg parts=>simp[Rows.uptoBulk]
 |iface t d=>simp[Rows.uptoBulk]
 |map a=>simp[Rows.uptoBulk]
 |held h=>simp[Rows.uptoBulk]
theorem Ic {H:Type}(l r:List (DataW H)):Rows.uptoBulkAll (l++r)=Rows.uptoBulkAll l+Rows.uptoBulkAll r:=by
 induction l with
 |nil=>simp[Rows.uptoBulkAll]
 |cons x l a=>simp only[Q_,Rows.uptoBulkAll,a];omega
def CR {H:Type}(l:List (DataW H))(k:Nat):Rows.uptoBulkAll (l.take k)<=Rows.uptoBulkAll l:=by
 have:=Ic (l.take k) (l.drop k);rw[j_]at this;omega
def yo {c:Type}(b:c->Nat):List c->Nat
 |[]=>0
 |a::l=>b a+yo b l
theorem TW {b:Type}(a:b->Nat)(l r:List b):yo a (l++r)=yo a l+yo a r:=by
 induction l with
 |nil=>simp[yo]
 |cons x l c=>simp only[Q_,yo,c];omega
theorem yz (l:List T):ba l=yo aO l:=by
 induction l with
 |nil=>rfl
 |cons x l a=>rw[ba,yo,a]
def PV (g:Gh):List (List AV×Nat)->List Value->Prop
 |[],a=>a=[]
 |p::L,a=>bD g p.1 (a.take p.2)/\PV g L (a.drop p.2)
def PV.all {g:Gh}: ∀{L:List (List AV×Nat)} {a:List Value},PV g L a->bD g (L.flatMap (·.1)) a
 |[],a,h=>by rw[show a=[] from h];exact .nil
 |p::L,a,h=>by
  rw[List.flatMap_cons,<-j_ p.2 a];exact h.1.append (PV.all h.2)
section
variable {H:Type}{en:TypeId×Value->H}{w:World}{base:Nat}{sp:Nat->Bool}{held:Bool}
noncomputable def yn (t:TypeId):Array Field:=((prog.underlying t).bind λ|.struct fs=>some fs|_=>none).getD #[]
def fo (t:TypeId):List (TypeId×Nat)->Prop:=λl=>(yn t).toList.map (λf=>(f.type,f.offset))=l
def uu3:prog.underlying 3=some (.int .i64):=r_
def u4:prog.underlying 4=some .bool:=r_
def u9:prog.underlying 9=some .string:=r_
def u22:prog.underlying 22=some (.slice 123):=r_
def u23:prog.underlying 23=some (.slice 40):=r_
def u38:prog.underlying 38=some (.slice 113):=r_
def u111:prog.underlying 111=some (.slice 160):=r_
def u118:prog.underlying 118=some (.slice 167):=r_
def u121:prog.underlying 121=some (.slice 154):=r_
def u150:prog.underlying 150=some (.slice 204):=r_
def u25:prog.underlying 25=some (.struct (yn 25)):=r_
def u40:prog.underlying 40=some (.struct (yn 40)):=r_
def u113:prog.underlying 113=some (.struct (yn 113)):=r_
def u160:prog.underlying 160=some (.struct (yn 160)):=r_
def u120:prog.underlying 120=some (.struct (yn 120)):=r_
def u123:prog.underlying 123=some (.struct (yn 123)):=r_
def u152:prog.underlying 152=some (.struct (yn 152)):=r_
def u154:prog.underlying 154=some (.struct (yn 154)):=r_
def u167:prog.underlying 167=some (.struct (yn 167)):=r_
def u204:prog.underlying 204=some (.struct (yn 204)):=r_
def k25:fo 25 [(22,0),(23,1)]:=by unfold fo;kernel_rfl
def k40:fo 40 [(3,0),(3,1),(9,2),(38,3),(23,4)]:=by unfold fo;kernel_rfl
def k113:fo 113 [(3,0),(111,1)]:=by unfold fo;kernel_rfl
def k160:fo 160 [(3,0),(3,1)]:=by unfold fo;kernel_rfl
def k120:fo 120 [(3,0),(40,1),(23,6)]:=by unfold fo;kernel_rfl
def k123:fo 123 [(3,0),(9,1),(3,2),(40,3),(40,8),(3,13),(118,14),(120,15),(121,22)]:=by unfold fo;kernel_rfl
def k152:fo 152 [(3,0),(40,1),(3,6),(150,7)]:=by unfold fo;kernel_rfl
def k154:fo 154 [(9,0),(40,1),(3,6),(152,7)]:=by unfold fo;kernel_rfl
def k167:fo 167 [(9,0),(40,1)]:=by unfold fo;kernel_rfl
def k204:fo 204 [(9,0),(4,1),(152,2)]:=by unfold fo;kernel_rfl
theorem n1:prog.cellsOf 3=1/\prog.cellsOf 4=1/\prog.cellsOf 9=1/\prog.cellsOf 22=1/\prog.cellsOf 23=1/\prog.cellsOf 38=1/\prog.cellsOf 111=1/\prog.cellsOf 118=1/\prog.cellsOf 121=1/\prog.cellsOf 150=1:=⟨by kernel_rfl,by kernel_rfl,by kernel_rfl,by kernel_rfl,by kernel_rfl,by kernel_rfl,by kernel_rfl,by kernel_rfl,by kernel_rfl,by kernel_rfl⟩
theorem n25:prog.cellsOf 25=2:=r_
theorem n40:prog.cellsOf 40=5:=r_
theorem n113:prog.cellsOf 113=2:=r_
theorem n160:prog.cellsOf 160=2:=r_
theorem n120:prog.cellsOf 120=7:=r_
theorem n123:prog.cellsOf 123=23:=r_
theorem agL:prog.cellsOf 152=8:=r_
theorem n154:prog.cellsOf 154=15:=r_
theorem n167:prog.cellsOf 167=6:=r_
theorem n204:prog.cellsOf 204=10:=r_
def mK {n:Nat}{a:List Value}{x:DataW H×List MemPlace}(h:DataW.trod en prog w base sp held n 3 a=some x):∃z:Int,a=[.int .i64 z]/\-9223372036854775808<=z/\z<9223372036854775808:=by
 obtain⟨z,rfl,_,b⟩:=DataW.trod_int uu3 h;refine⟨z,rfl,?_⟩;simp only[Lit.wf,Bool.and_eq_true,decide_eq_true_eq]at b;have c:IntKind.min .i64=-9223372036854775808:=rfl;have d:IntKind.max .i64=9223372036854775807:=rfl;omega
def XW {n:Nat}{a:List Value}{x:DataW H×List MemPlace}(h:DataW.trod en prog w base sp held n 4 a=some x):∃b:Bool,a=[.bool b]:=by
 obtain⟨b,rfl,_⟩:=DataW.trod_bool u4 h;exact⟨b,rfl⟩
def Bs {n:Nat}{a:List Value}{x:DataW H×List MemPlace}(h:DataW.trod en prog w base sp held n 9 a=some x):∃s:ByteArray,a=[.string s]/\s.size<Rows.uptoBulk x.1:=by
 obtain⟨s,rfl,rfl,_⟩:=DataW.trod_string u9 h;refine⟨s,rfl,?_⟩;have e:s.data.toList.length=s.size:=Array.length_toList;simp only[Rows.uptoBulk];omega
def iP {t:TypeId}{l:List (TypeId×Nat)}(j:prog.underlying t=some (.struct (yn t)))(hk:fo t l){n:Nat}{b:List Value}{x:DataW H×List MemPlace}(h:DataW.trod en prog w base sp held n t b=some x):
  b.length=prog.cellsOf t/\∃m,n=m+1/\∃d:List (DataW H×List MemPlace),d.length=l.length/\Rows.uptoBulk x.1=Rows.uptoBulkAll (d.map (·.1))+1/\
   ∀(i:Nat) a o y,l[i]?=some (a,o)->d[i]?=some y->DataW.trod en prog w base sp held m a ((b.drop o).take (prog.cellsOf a))=some y:=by
 obtain⟨p,m,rfl,rfl,k,hx,hi⟩:=DataW.trod_struct j h;have hk:=hk;refine⟨k,m,rfl,p,by rw[<-hk,L_,hx];rfl,by simp only[Rows.uptoBulk],λi a o y e q=>?_⟩;rw[<-hk,List.getElem?_map]at e;cases g:(yn t).toList[i]? with
 |none=>rw[g]at e;cases e
 |some f=>
  rw[g]at e;simp only[Option.map_some,Option.some.injEq,Prod.mk.injEq]at e;obtain⟨rfl,rfl⟩:=e;have c:(yn t)[i]?=some f:=by simpa using g
  have:=hi i f c;rw[q]at this;exact this
def jZ {J:Type}{t e:TypeId}{sz:Nat}{f:J->AV}{Good:J->Prop}{mu:J->Nat}(ht:prog.underlying t=some (.slice e))(o:prog.cellsOf e=sz)(U:0<sz)
  (hf:∀a,(f a).cells.length=sz) (S:∀a,aZ (f a).cells=true) {n:Nat} {K:List Value} {x:DataW H×List MemPlace} (h:DataW.trod en prog w base sp held n t K=some x) (X:Rows.uptoBulk x.1<=1048576)
  (N:∀m,n=m+1->∀K y,DataW.trod en prog w base sp held m e K=some y->Rows.uptoBulk y.1<=1048576->∃a,Good a/\mu a<=Rows.uptoBulk y.1/\bD (jW w) (f a).cells K) :
  ∃l:List J,(∀a∈l,Good a)/\yo mu l<Rows.uptoBulk x.1/\l.length<Rows.uptoBulk x.1/\∃v,K=[v]/\bR (jW w) (.ls (l.map f)) v:=by
 rcases DataW.trod_slice ht h with⟨rfl,rfl⟩|⟨a,len,ac,lN,rest,m,rfl,rfl,rfl,Z,hl,hm,V,hi,_,_⟩
 ·have:=Ib (DataW.nil (H:=H));exact⟨[],by simp,by simp only[yo];omega,by simp only[List.length_nil];omega,_,rfl,.lst0⟩
 have X:Rows.uptoBulk (DataW.slice (lN.map (·.1)) (rest.map (·.1)))<=1048576:=X;have s:Rows.uptoBulkAll (lN.map (·.1))+1<=Rows.uptoBulk (DataW.slice (lN.map (·.1)) (rest.map (·.1))):=by simp only[Rows.uptoBulk];omega
 have I:∀k,k<=len->∃l:List J,l.length=k/\(∀a∈l,Good a)/\yo mu l<=Rows.uptoBulkAll ((lN.map (·.1)).take k)/\k<=Rows.uptoBulkAll ((lN.map (·.1)).take k)/\∃us,bD (jW w) (bJ (l.map f)) us/\us.length=k*sz/\∀i u,us[i]?=some u->w.cell? (a.add i)=some u:=by
  intro k;induction k with
  |zero=>intro _;exact⟨[],rfl,by simp,by simp[yo],by simp,[],.nil,by simp,by simp⟩
  |succ k T=>
   intro hk;obtain⟨l,j,r,A,C,us,M,B,L⟩:=T o_;have F:=hi k o_;have G:k<lN.length:=o_;rw[a_ G]at F;obtain⟨p,q1,q2⟩:=Option.bind_eq_some_iff.1 F;obtain⟨_,R,q⟩:=World.cells?_some q1;have Q:(lN.map (·.1)).take (k+1)=(lN.map (·.1)).take k++[lN[k].1]:=by
    rw[Z_,List.getElem?_map,a_ G];rfl
   have ab:Rows.uptoBulkAll ((lN.map (·.1)).take (k+1))=Rows.uptoBulkAll ((lN.map (·.1)).take k)+Rows.uptoBulk lN[k].1:=by
    rw[Q,Ic];simp only[Rows.uptoBulkAll];omega
   have O:Rows.uptoBulk lN[k].1<=1048576:=by
    have:=CR (lN.map (·.1)) (k+1);omega
   have aa:=Ib lN[k].1;obtain⟨z,hg,ad,hz⟩:=N m rfl p _ q2 O;refine⟨l++[z],by simp[j],?_,?_,o_,us++p,?_,?_,?_⟩
   ·intro a ha;rcases List.mem_append.1 ha with h|h
    ·exact r a h
    simp at h;subst h;exact hg
   ·rw[TW];simp only[yo];omega
   ·rw[List.map_append,fW];refine M.append ?_;simp only[List.map_cons,List.map_nil];rw[cK,lQ,A_];exact hz
   ·rw[H_,B,R,o,Nat.succ_mul]
   intro i u d;by_cases P:i<us.length
   ·rw[List.getElem?_append_left P]at d;exact L i u d
   rw[List.getElem?_append_right o_]at d;have af:i-us.length<p.length:=by
    rcases Nat.lt_or_ge (i-us.length) p.length with h|h
    ·exact h
    rw[S_ h]at d;cases d
   have:=q (i-us.length) o_;rw[d,Addr.add_add,o]at this;rw[show k*sz+(i-us.length)=i by omega]at this;exact this
 obtain⟨l,j,r,A,C,us,M,B,L⟩:=I len (e_ _);have D:=CR (lN.map (·.1)) len;refine⟨l,r,Nat.lt_of_le_of_lt (C_ A D) s,Nat.lt_of_le_of_lt (C_ (by rw[j];exact C) D) s,_,rfl,?_⟩;by_cases Y:len=0
 ·have:l=[]:=List.length_eq_zero_iff.1 o_;subst this;subst Y;exact .lst0
 have E:0<us.length:=by rw[B];exact Nat.mul_pos o_ U
 have g:=World.cell?_spot (L 0 _ (a_ E));rw[show a.add 0=a by simp[Addr.add]]at g;obtain⟨b,off,W⟩:=a;simp only at g;subst g;refine .ls (sz:=sz) ?_ ?_ (by simp[j]) (by simp[j];omega) (fO.mk M λi u d=>?_)
 ·intro e he;obtain⟨a,_,rfl⟩:=List.mem_map.1 he;exact hf a
 ·rw[dU];intro c o;clear M I j r A C;induction l with
  |nil=>simp[lQ]at o
  |cons a l T=>
   rw[List.map_cons,cK,List.mem_append]at o;rcases o with o|o
   ·exact(dU _).1 (S a) c o
   exact T o
 have:=L i u d;rw[show(⟨b,off,none⟩:Addr).add i=⟨b,off+i,none⟩ by unfold Addr.add;split<;>simp_all]at this;exact this
end
def TA (a:LV):(cQ a).cells.length=2:=rfl
def Pe (a:LV):aZ (cQ a).cells=true:=rfl
def TE (a:LL):(cB a).cells.length=2:=rfl
def Pg (a:LL):aZ (cB a).cells=true:=rfl
def Ay (a:T):aZ (enc a).cells=true:=by cases a;rw[pQ];rfl
def Jj (a:CtV):aZ (jb a).cells=true:=rfl
def Jf (a:FnV):aZ (gk a).cells=true:=rfl
def Pk (a:DV):aZ (gJ a).cells=true:=rfl
def Jk (a:Br):aZ (nK a).cells=true:=by rw[jx];cases a;rfl
def dX {a:Type}{l:List a}{n:Nat}(h:l.length=n){i:Nat}(hi:i<n):∃y,l[i]?=some y:=⟨_,a_ o_⟩
def Ju {H:Type}{ds:List (DataW H)}{i:Nat}{d:DataW H}(h:ds[i]?=some d):Rows.uptoBulk d<=Rows.uptoBulkAll ds:=by
 induction ds generalizing i with
 |nil=>cases h
 |cons x r a=>
  simp only[Rows.uptoBulkAll];cases i with
  |zero=>cases h;omega
  |succ i=>have:=a (i:=i) h;omega
section
variable {H:Type}{en:TypeId×Value->H}{w:World}{base:Nat}{sp:Nat->Bool}{held:Bool}
def rd_V {n:Nat}{b:List Value}{x:DataW H×List MemPlace}(h:DataW.trod en prog w base sp held n 160 b=some x):∃a:LV,True/\0<=Rows.uptoBulk x.1/\bD (jW w) (cQ a).cells b:=by
 obtain⟨q,_,rfl,_,i,_,g⟩:=iP u160 k160 h;rw[n160]at q;have⟨p,l⟩:=dX i (i:=0) (by decide);have⟨o,k⟩:=dX i (i:=1) (by decide);have c:=g 0 3 0 p rfl l;have e:=g 1 3 1 o rfl k;rw[n1.1]at c e;have⟨f,e0,_⟩:=mK c;have⟨d,j,_⟩:=mK e;refine⟨⟨f,d⟩,trivial,Nat.zero_le _,?_⟩;refine PV.all (L:=[([.I f],1),([.I d],1)]) ⟨?_,?_,?_⟩
 ·rw[show b.take 1=(b.drop 0).take 1 from rfl,e0];exact .cons (.int _ _) .nil
 ·rw[j];exact .cons (.int _ _) .nil
 exact List.drop_eq_nil_of_le (by rw[List.length_drop];omega)
theorem aai (t:T):(enc t).cells=aG t:=by rw[aJ];rfl
def gV {l:List (DataW H×List MemPlace)}{i:Nat}{y:DataW H×List MemPlace}(h:l[i]?=some y):Rows.uptoBulk y.1<=Rows.uptoBulkAll (l.map (·.1)):=Ju (i:=i) (by rw[List.getElem?_map,h];rfl)
def rd_L {n:Nat}{b:List Value}{x:DataW H×List MemPlace}(h:DataW.trod en prog w base sp held n 113 b=some x)(hx:Rows.uptoBulk x.1<=1048576):∃a:LL,a.V.length<10000000/\0<=Rows.uptoBulk x.1/\bD (jW w) (cB a).cells b:=by
 obtain⟨s,_,rfl,_,c,_,j⟩:=iP u113 k113 h;rw[n113]at s;have⟨r,p⟩:=dX c (i:=0) (by decide);have⟨q,e⟩:=dX c (i:=1) (by decide);have d:=j 0 3 0 r rfl p;have g:=j 1 111 1 q rfl e;have z:=gV e;rw[n1.1]at d;rw[n1.2.2.2.2.2.2.1]at g;have⟨i,e0,_⟩:=mK d;have⟨l,_,_,f,_,o,k⟩:=jZ (f:=cQ) (Good:=λ_=>True) (mu:=λ_=>0) u111 n160 o_ TA Pe g o_ (λm _ b y c _=>rd_V c);refine⟨⟨i,l⟩,by show l.length<10000000;omega,Nat.zero_le _,?_⟩;refine PV.all (L:=[([.I i],1),([.eV l],1)]) ⟨?_,?_,?_⟩
 ·rw[show b.take 1=(b.drop 0).take 1 from rfl,e0];exact .cons (.int _ _) .nil
 ·rw[o];exact .cons k .nil
 exact List.drop_eq_nil_of_le (by rw[List.length_drop];omega)
def Qf:∀(n:Nat) {cs:List Value} {x:DataW H×List MemPlace},DataW.trod en prog w base sp held n 40 cs=some x->Rows.uptoBulk x.1<=1048576->∃t:T,BT t/\aO t<=Rows.uptoBulk x.1/\bD (jW w) (enc t).cells cs:=by
 intro n;induction n using Nat.strongRecOn with
 |ind n ih=>
  intro cs x h hx;obtain⟨hl,_,rfl,_,hy,_,hf⟩:=iP u40 k40 h;rw[n40]at hl;have⟨y0,q0⟩:=dX hy (i:=0) (by decide);have⟨y1,q1⟩:=dX hy (i:=1) (by decide);have⟨y2,q2⟩:=dX hy (i:=2) (by decide);have⟨y3,q3⟩:=dX hy (i:=3) (by decide);have⟨y4,q4⟩:=dX hy (i:=4) (by decide);have h0:=hf 0 3 0 y0 rfl q0;have h1:=hf 1 3 1 y1 rfl q1;have h2:=hf 2 9 2 y2 rfl q2;have h3:=hf 3 38 3 y3 rfl q3;have h4:=hf 4 23 4 y4 rfl q4;have p2:=gV q2;have p3:=gV q3;have p4:=gV q4;rw[n1.1]at h0 h1;rw[n1.2.2.1]at h2;rw[n1.2.2.2.2.2.1]at h3;rw[n1.2.2.2.2.1]at h4;have⟨z0,e0,_⟩:=mK h0;have⟨z1,e1,r1,r2⟩:=mK h1;have⟨s,e2,_⟩:=Bs h2;have⟨ls,g3,_,_,_,e3,r3⟩:=jZ (f:=cB) (Good:=λa=>a.V.length<10000000) (mu:=λ_=>0) u38 n113 o_ TE Pg h3 o_ (λm _ cs y hy hby=>rd_L hy hby);have⟨ks,g4,_,_,_,e4,r4⟩:=jZ (f:=enc) (Good:=BT) (mu:=aO) u23 n40 o_ bH Ay h4 o_ (λm' hm cs y hy hby=>ih m' o_ hy hby);refine⟨.mk z0 z1 s ls ks,.mk _ (by show s.size<_;omega) (by show ls.length<_;omega) g3 r1 r2 g4,?_,?_⟩
  ·rw[aO,yz];omega
  rw[aai];refine PV.all (L:=[([.I z0],1),([.I z1],1),([.str s],1),([.eL ls],1),([.eT ks],1)]) ⟨?_,?_,?_,?_,?_,?_⟩
  ·rw[show cs.take 1=(cs.drop 0).take 1 from rfl,e0];exact .cons (.int _ _) .nil
  ·rw[e1];exact .cons (.int _ _) .nil
  ·simp only[List.drop_drop,Nat.reduceAdd];rw[e2];exact .cons (.str _) .nil
  ·simp only[List.drop_drop,Nat.reduceAdd];rw[e3];exact .cons r3 .nil
  ·simp only[List.drop_drop,Nat.reduceAdd];rw[e4];exact .cons r4 .nil
  simp only[List.drop_drop,Nat.reduceAdd];exact List.drop_eq_nil_of_le o_
def rd_C {n:Nat}{b:List Value}{x:DataW H×List MemPlace}(h:DataW.trod en prog w base sp held n 167 b=some x)(hx:Rows.uptoBulk x.1<=1048576):∃a:CtV,(BT a.type/\aO a.type<=1048576)/\0<=Rows.uptoBulk x.1/\bD (jW w) (jb a).cells b:=by
 obtain⟨o,_,rfl,_,i,_,g⟩:=iP u167 k167 h;rw[n167]at o;have⟨l,j⟩:=dX i (i:=0) (by decide);have⟨k,e⟩:=dX i (i:=1) (by decide);have c:=g 0 9 0 l rfl j;have f:=g 1 40 1 k rfl e;have r:=gV e;rw[n1.2.2.1]at c;rw[n40]at f;have⟨s,e0,_⟩:=Bs c;have⟨t,bt,_,d⟩:=Qf _ f o_;rw[aai]at d;refine⟨⟨s,t⟩,⟨bt,by show aO t<=_;omega⟩,Nat.zero_le _,?_⟩;refine PV.all (L:=[([.str s],1),(aG t,5)]) ⟨?_,?_,?_⟩
 ·rw[show b.take 1=(b.drop 0).take 1 from rfl,e0];exact .cons (.str _) .nil
 ·exact d
 simp only[List.drop_drop,Nat.reduceAdd];exact List.drop_eq_nil_of_le o_
def ND:∀{l:List Br},(∀b∈l,BTr (brT b))->Qp l
 |[],_=>by unfold Qp;trivial
 |.mk c a t::l,h=>by
  unfold Qp;exact⟨h _ (List.mem_cons_self ..),ND λb d=>h b (List.mem_cons_of_mem _ d)⟩
theorem RA (l:List Br):tss l=yo (λb=>1+ts (brT b)) l:=by
 induction l with
 |nil=>rw[tss];rfl
 |cons b l d=>have⟨_,_,_⟩:=b;rw[tss,yo,d];rfl
def of4 {e:Type}{l:List e}(h:l.length=4):∃a b c d,l=[a,b,c,d]:=by
 match l,h with
 |[a,b,c,d],_=>exact⟨a,b,c,d,rfl⟩
def rd_Tr:∀(n:Nat) {cs:List Value} {x:DataW H×List MemPlace},DataW.trod en prog w base sp held n 152 cs=some x->Rows.uptoBulk x.1<=1048576->∃t:gK,BTr t/\ts t<=Rows.uptoBulk x.1/\bD (jW w) (bc t) cs:=by
 intro n;induction n using Nat.strongRecOn with
 |ind n ih=>
  intro cs x h hx;obtain⟨hl,_,rfl,_,hy,hb,hf⟩:=iP u152 k152 h;rw[agL]at hl;obtain⟨y0,y1,y2,y3,rfl⟩:=of4 hy;simp only[List.map_cons,List.map_nil,Rows.uptoBulkAll]at hb;have h0:=hf 0 3 0 y0 rfl rfl;have h1:=hf 1 40 1 y1 rfl rfl;have h2:=hf 2 3 6 y2 rfl rfl;have h3:=hf 3 150 7 y3 rfl rfl;rw[n1.1]at h0 h2;rw[n40]at h1;rw[n1.2.2.2.2.2.2.2.2.2]at h3;have⟨z0,e0,_⟩:=mK h0;have⟨z2,e2,_⟩:=mK h2;have⟨t,bt,_,vt⟩:=Qf _ h1 o_;have⟨bs_,g3,_,_,_,e3,r3⟩:=jZ (f:=nK) (Good:=λb=>BTr (brT b)) (mu:=λb=>1+ts (brT b)) u150 n204 o_ encBr_len Jk h3 o_ (λm' hm cs y hy hby=>by
   obtain⟨hl,k,rfl,_,hz,_,hg⟩:=iP u204 k204 hy;rw[n204]at hl;have⟨x0,q0⟩:=dX hz (i:=0) (by decide);have⟨x1,q1⟩:=dX hz (i:=1) (by decide);have⟨x2,q2⟩:=dX hz (i:=2) (by decide);have g0:=hg 0 9 0 x0 rfl q0;have g1:=hg 1 4 1 x1 rfl q1;have g2:=hg 2 152 2 x2 rfl q2;have p2:=gV q2;rw[n1.2.2.1]at g0;rw[n1.2.1]at g1;rw[agL]at g2;have⟨s,f0,_⟩:=Bs g0;have⟨b,f1⟩:=XW g1;have⟨tr,btr,_,vtr⟩:=ih k o_ g2 o_;refine⟨.mk s b tr,btr,by show 1+ts tr<=_;omega,?_⟩;rw[jx];refine PV.all (L:=[([.str s],1),([.bool b],1),(bc tr,8)]) ⟨?_,?_,?_,?_⟩
   ·rw[show cs.take 1=(cs.drop 0).take 1 from rfl,f0];exact .cons (.str _) .nil
   ·rw[f1];exact .cons (.bool _) .nil
   ·simp only[List.drop_drop,Nat.reduceAdd];exact vtr
   simp only[List.drop_drop,Nat.reduceAdd];exact List.drop_eq_nil_of_le o_)
  rw[aai]at vt;refine⟨.mk z0 t z2 bs_,by unfold BTr;exact⟨bt,ND g3⟩,by rw[ts,RA];omega,?_⟩;refine PV.all (L:=[([.I z0],1),(aG t,5),([.I z2],1),([.ls (bs_.map nK)],1)]) ⟨?_,?_,?_,?_,?_⟩
  ·rw[show cs.take 1=(cs.drop 0).take 1 from rfl,e0];exact .cons (.int _ _) .nil
  ·exact vt
  ·simp only[List.drop_drop,Nat.reduceAdd];rw[e2];exact .cons (.int _ _) .nil
  ·simp only[List.drop_drop,Nat.reduceAdd];rw[e3];exact .cons r3 .nil
  simp only[List.drop_drop,Nat.reduceAdd];exact List.drop_eq_nil_of_le o_
def rd_F {n:Nat}{d:List Value}{x:DataW H×List MemPlace}(h:DataW.trod en prog w base sp held n 154 d=some x)(hx:Rows.uptoBulk x.1<=1048576):∃a:FnV,((BT a.type/\BTr a.tree)/\aO a.type<=1048576/\ts a.tree<=1048576)/\0<=Rows.uptoBulk x.1/\bD (jW w) (gk a).cells d:=by
 obtain⟨C,_,rfl,_,b,_,c⟩:=iP u154 k154 h;rw[n154]at C;have⟨A,D⟩:=dX b (i:=0) (by decide);have⟨z,o⟩:=dX b (i:=1) (by decide);have⟨v,E⟩:=dX b (i:=2) (by decide);have⟨B,p⟩:=dX b (i:=3) (by decide);have i:=c 0 9 0 A rfl D;have q:=c 1 40 1 z rfl o;have r:=c 2 3 6 v rfl E;have j:=c 3 152 7 B rfl p;have J:=gV o;have G:=gV p;rw[n1.2.2.1]at i;rw[n40]at q;rw[n1.1]at r;rw[agL]at j;have⟨s,e0,_⟩:=Bs i;have⟨t,bt,_,k⟩:=Qf _ q o_;have⟨u,y,_⟩:=mK r;have⟨f,e,_,g⟩:=rd_Tr _ j o_;rw[aai]at k;refine⟨⟨s,t,u,f⟩,⟨⟨bt,e⟩,by show aO t<=_;omega,by show ts f<=_;omega⟩,Nat.zero_le _,?_⟩;refine PV.all (L:=[([.str s],1),(aG t,5),([.I u],1),(bc f,8)]) ⟨?_,?_,?_,?_,?_⟩
 ·rw[show d.take 1=(d.drop 0).take 1 from rfl,e0];exact .cons (.str _) .nil
 ·exact k
 ·simp only[List.drop_drop,Nat.reduceAdd];rw[y];exact .cons (.int _ _) .nil
 ·simp only[List.drop_drop,Nat.reduceAdd];exact g
 simp only[List.drop_drop,Nat.reduceAdd];exact List.drop_eq_nil_of_le o_
def rd_D {n:Nat}{i:List Value}{x:DataW H×List MemPlace}(h:DataW.trod en prog w base sp held n 123 i=some x)(hx:Rows.uptoBulk x.1<=1048576):∃a:DV,(PD 1048576 a/\BD a)/\0<=Rows.uptoBulk x.1/\bD (jW w) (gJ a).cells i:=by
 obtain⟨hl,_,rfl,_,d,_,e⟩:=iP u123 k123 h;rw[n123]at hl;have⟨y0,q0⟩:=dX d (i:=0) (by decide);have⟨y1,q1⟩:=dX d (i:=1) (by decide);have⟨y2,q2⟩:=dX d (i:=2) (by decide);have⟨y3,Y⟩:=dX d (i:=3) (by decide);have⟨y4,Q⟩:=dX d (i:=4) (by decide);have⟨y5,q5⟩:=dX d (i:=5) (by decide);have⟨y6,V⟩:=dX d (i:=6) (by decide);have⟨y7,R⟩:=dX d (i:=7) (by decide);have⟨y8,W⟩:=dX d (i:=8) (by decide);have K:=e 0 3 0 y0 rfl q0;have h1:=e 1 9 1 y1 rfl q1;have h2:=e 2 3 2 y2 rfl q2;have L:=e 3 40 3 y3 rfl Y;have M:=e 4 40 8 y4 rfl Q;have h5:=e 5 3 13 y5 rfl q5;have h6:=e 6 118 14 y6 rfl V;have h7:=e 7 120 15 y7 rfl R;have T:=e 8 121 22 y8 rfl W;have p3:=gV Y;have p4:=gV Q;have p6:=gV V;have p7:=gV R;have p8:=gV W;rw[n1.1]at K h2 h5;rw[n1.2.2.1]at h1;rw[n40]at L M;rw[n1.2.2.2.2.2.2.2.1]at h6;rw[n120]at h7;rw[n1.2.2.2.2.2.2.2.2.1]at T;have⟨z0,e0,_⟩:=mK K;have⟨s,e1,_⟩:=Bs h1;have⟨z2,e2,_⟩:=mK h2;have⟨E,I,_,q⟩:=Qf _ L o_;have⟨G,z,_,p⟩:=Qf _ M o_;have⟨z5,e5,_⟩:=mK h5;have⟨k,g6,_,_,_,e6,r6⟩:=jZ (f:=jb) (Good:=λa=>BT a.type/\aO a.type<=1048576) (mu:=λ_=>0) u118 n167 o_ encCt_len Jj h6 o_ (λm _ i y d g=>rd_C d g);have⟨B,v,_,_,_,e8,r8⟩:=jZ (f:=gk) (Good:=λa=>(BT a.type/\BTr a.tree)/\aO a.type<=1048576/\ts a.tree<=1048576) (mu:=λ_=>0) u121 n154 o_ encFn_len Jf T o_ (λm _ i y d g=>rd_F d g);have⟨_,_,_,_,j,_,l⟩:=iP u120 k120 h7;have⟨x0,r0⟩:=dX j (i:=0) (by decide);have⟨x1,S⟩:=dX j (i:=1) (by decide);have⟨x2,N⟩:=dX j (i:=2) (by decide);have Z:=l 0 3 0 x0 rfl r0;have f1:=l 1 40 1 x1 rfl S;have X:=l 2 23 6 x2 rfl N;have w1:=gV S;have w2:=gV N;rw[n1.1]at Z;rw[n40]at f1;rw[n1.2.2.2.2.1]at X;have⟨rp,U,_⟩:=mK Z;have⟨C,D,_,o⟩:=Qf _ f1 o_;have⟨J,P,_,_,_,u,rr⟩:=jZ (f:=enc) (Good:=λt=>BT t/\aO t<=1048576) (mu:=λ_=>0) u23 n40 o_ bH Ay X o_ (λm' hm i y d g=>by
  have⟨t,a,b,c⟩:=Qf _ d g;exact⟨t,⟨a,o_⟩,Nat.zero_le _,c⟩)
 rw[aai]at q p o;refine⟨⟨z0,s,z2,E,G,z5,k,rp,C,J,B⟩,⟨⟨?_,?_,?_,?_,?_,?_,λc F=>(g6 c F).2,λr A=>(P r A).2,λf e=>(v f e).2⟩,I,z,D,λc F=>(g6 c F).1,λr A=>(P r A).1,λf e=>⟨(v f e).1.1,(v f e).1.2,by have:=(v f e).2.2;omega⟩⟩,Nat.zero_le _,?_⟩
 ·show aO E<=_;omega
 ·show aO G<=_;omega
 ·show aO C<=_;omega
 ·show k.length<=_;omega
 ·show J.length<=_;omega
 ·show B.length<=_;omega
 have dt:∀{a b c:Nat},b+c<=7->a=15+b->((i.drop 15).take 7 |>.drop b).take c=(i.drop a).take c:=by
  rintro a b c h rfl;rw[List.drop_take,List.drop_drop,List.take_take,Nat.min_eq_left o_]
 rw[dt o_ rfl]at U u o;refine PV.all (L:=[([.I z0],1),([.str s],1),([.I z2],1),(aG E,5),(aG G,5),([.I z5],1),([.ls (k.map jb)],1),([.I rp],1),(aG C,5),([.eT J],1),([.ls (B.map gk)],1)]) ⟨?_,?_,?_,?_,?_,?_,?_,?_,?_,?_,?_,?_⟩
 ·rw[show i.take 1=(i.drop 0).take 1 from rfl,e0];exact .cons (.int _ _) .nil
 ·rw[e1];exact .cons (.str _) .nil
 ·simp only[List.drop_drop,Nat.reduceAdd];rw[e2];exact .cons (.int _ _) .nil
 ·simp only[List.drop_drop,Nat.reduceAdd];exact q
 ·simp only[List.drop_drop,Nat.reduceAdd];exact p
 ·simp only[List.drop_drop,Nat.reduceAdd];rw[e5];exact .cons (.int _ _) .nil
 ·simp only[List.drop_drop,Nat.reduceAdd];rw[e6];exact .cons r6 .nil
 ·simp only[List.drop_drop,Nat.reduceAdd];rw[U];exact .cons (.int _ _) .nil
 ·simp only[List.drop_drop,Nat.reduceAdd];exact o
 ·simp only[List.drop_drop,Nat.reduceAdd];rw[u];exact .cons rr .nil
 ·simp only[List.drop_drop,Nat.reduceAdd];rw[e8];exact .cons r8 .nil
 simp only[List.drop_drop,Nat.reduceAdd];exact List.drop_eq_nil_of_le o_
def rd_G {n:Nat}{f:List Value}{x:DataW H×List MemPlace}(h:DataW.trod en prog w base sp held n 25 f=some x)(hx:Rows.uptoBulk x.1<=1048576):∃(b:List DV) (l:List T),PE 1048576 b/\PT 1048576 l/\bD (jW w) (ow b l).cells f:=by
 obtain⟨z,_,rfl,_,e,_,j⟩:=iP u25 k25 h;rw[n25]at z;have⟨v,p⟩:=dX e (i:=0) (by decide);have⟨t,k⟩:=dX e (i:=1) (by decide);have i:=j 0 22 0 v rfl p;have o:=j 1 23 1 t rfl k;have J:=gV p;have L:=gV k;rw[n1.2.2.2.1]at i;rw[n1.2.2.2.2.1]at o;have⟨b,q,_,_,_,e0,A⟩:=jZ (f:=gJ) (Good:=λa=>PD 1048576 a/\BD a) (mu:=λ_=>0) u22 n123 o_ encD_len Pk i o_ (λm _ f y e c=>rd_D e c);have⟨l,B,_,_,_,s,r⟩:=jZ (f:=enc) (Good:=BT) (mu:=aO) u23 n40 o_ bH Ay o o_ (λC hm f y e c=>Qf _ e c);refine⟨b,l,⟨λd g=>(q d g).1,λd g=>(q d g).2,o_⟩,⟨by rw[yz];omega,B⟩,?_⟩;refine PV.all (L:=[([.eD b],1),([.eT l],1)]) ⟨?_,?_,?_⟩
 ·rw[show f.take 1=(f.drop 0).take 1 from rfl,e0];exact .cons A .nil
 ·rw[s];exact .cons r .nil
 simp only[List.drop_drop,Nat.reduceAdd];exact List.drop_eq_nil_of_le o_
end
