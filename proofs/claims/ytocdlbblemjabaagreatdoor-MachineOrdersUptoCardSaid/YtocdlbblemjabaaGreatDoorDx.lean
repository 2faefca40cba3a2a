/- Lemmas for MachineOrders (no condition). -/
import Derived.Test.YtocdlbblemjabaaGreatDoorDw
import Derived.Test.YtocdlbblemjabaaGreatDoorRows
import Derived.Below
import Derived.WideKeyArgs
set_option linter.defProp false
namespace Go.Proofs.YtocdlbblemjabaaGreatDoor
open Go.ChangeShapes Go.WideShapes Go.ChangeAt Go.RowKit Go.Proofs Go.Proofs.Tryz
theorem ps5:f6.params.toList=[25,3,3]:=r_
def rs5:f6.resultTypes=#[4]:=r_
def rr25:prog.readableRec 25=true:=r_
def rr3:prog.readableRec 3=true:=r_
def z3:3<prog.types.size:=of_decide_eq_true (by kernel_rfl)
def z25:25<prog.types.size:=of_decide_eq_true (by kernel_rfl)
def DK {W W':World}(h:∀b,b<W.heap.size->W'.heap[b]?=W.heap[b]?){p:MemPlace}(hp:p.block<W.heap.size):W.sameAt W' p:=by
 cases p with
 |cell b o=>exact World.cell?_of_block (w:=W) (h b hp)
 |map b=>exact h b hp
def YM {W W':World}(h:∀b,b<W.heap.size->W'.heap[b]?=W.heap[b]?)(ho:W'.os=W.os)(hu:W'.output=W.output)(may:MemPlace->Prop):W.keptBut W' may:=by
 refine⟨ho,hu,λi hi=>?_⟩;rw[h i hi];split<;>simp_all
theorem QQ:laidOutB prog=true:=r_
def own5:ownKnob prog.godebug=none:=r_
set_option maxRecDepth 100000 in
def Pt (H:Type)(enc:TypeId×Value->H)(W:World)(base:Nat)(args:Array Value)(ds gs:List (DataW H))(before:List MemPlace)
  (hval0:∀(j:Nat) t v,f6.params[j]?=some t->args[j]?=some v->Value.okWide prog W .any base t v)
  (hW:DataW.Whole enc prog f6.params.toList Rows.machineOrdersSpec.vars false W args.toList ds gs before) (hk:Rows.uptoSmall H (ds++gs)=true) (hL:laidMetH prog Rows.machineOrdersUptoRow.laid W) :
  Calls prog 6 args W λe W'=>∃v,e=.returned v/\Rows.machineOrdersSpec.post enc prog f6 false true false false W args v W':=by
 have hval:∀(j:Nat) t v,f6.params[j]?=some t->args[j]?=some v->Value.okWide prog W .any base t v:=hval0;clear hval0;have hW':=hW;obtain⟨p,q,hA0,hV,rfl,_,_⟩:=hW;have hA:DataW.TrodAll enc prog W 0 (λ_=>true) true f6.params.toList args.toList ds p:=hA0;clear hA0;rw[ps5]at hA;obtain⟨v0,vs0,d0,ds0,p0,q0,hargs,rfl,rfl,h0,r0⟩:=trodAll_cons hA;obtain⟨v1,vs1,d1,ds1,p1,q1,rfl,rfl,rfl,h1,r1⟩:=trodAll_cons r0;obtain⟨v2,vs2,d2,ds2,p2,q2,rfl,rfl,rfl,h2,r2⟩:=trodAll_cons r1;obtain⟨rfl,rfl,rfl⟩:=trodAll_nil r2;obtain rfl:args=#[v0,v1,v2]:=by cases args;simp_all
 obtain⟨rfl,rfl⟩:=trodVars_none hV;have hp5:∀j:Nat,f6.params[j]?=([25,3,3]:List TypeId)[j]?:=λj=>by rw[<-ps5,Array.getElem?_toList]
 obtain⟨cs0,rfl,_⟩:=okWide_struct u25 (hval 0 25 v0 (by rw[hp5];rfl) rfl);obtain⟨a,rfl⟩:=okWide_int uu3 (hval 1 3 v1 (by rw[hp5];rfl) rfl);obtain⟨b,rfl⟩:=okWide_int uu3 (hval 2 3 v2 (by rw[hp5];rfl) rfl);obtain⟨n0,q0⟩:=h0;have hb:Rows.uptoBulk d0<=1048576:=by
  have h:=of_decide_eq_true hk;simp only[List.append_nil,Rows.uptoBulkAll]at h;omega
 obtain⟨env,l,pe,pt,hs⟩:=rd_G (n:=n0) (x:=(d0,p0)) q0 hb;have hs:AG.bR (AG.jW W) (ow env l) (.agg cs0):=by
  have hs:AG.bD (AG.jW W) (ow env l).cells cs0.toList:=hs;have e:cs0=⟨cs0.toList⟩:=by cases cs0;rfl
  rw[e];exact .agg rfl hs
 have hlt:∀x,x∈p0\/x∈p1\/x∈p2->x.block<W.heap.size:=λx hx=>by simpa using hW'.lt x (by simp only[List.mem_append];rcases hx with h|h|h<;>simp[h])
 refine(af6 env l pe pt a b W [.agg cs0,.int .i64 a,.int .i64 b] (.cons hs (.cons (.int _ _) (.cons (.int _ _) .nil))) (ac7 hL)).mono λe W' ⟨he,hb,ho,hu⟩=>?_;subst he;have hr:f6.resultTypes=#[4]:=rs5;refine⟨_,rfl,_,_,_,[],p0++(p1++(p2++[])),[],hW',?_,?_,rfl,YM hb ho hu _,λh=>by cases h⟩
 ·show DataW.TrodAll enc prog W' _ _ _ f6.resultTypes.toList ((Value.bool true).resultList f6.resultTypes.size) [.lit (.bool true)] [];rw[hr];exact trodAll_mk1 (shut_bool u4 true)
 show DataW.TrodAll enc prog W' 0 _ true f6.params.toList _ [d0,d1,d2] _;rw[ps5];exact trodAll_cons_mk (WideElems.Trod_stays QQ rr25 z25 ⟨n0,q0⟩ (λx hx=>DK hb (hlt x (.inl hx))) (λx hx=>by simpa using hlt x (.inl hx)))
  (trodAll_cons_mk (WideElems.Trod_stays QQ rr3 z3 h1 (λx hx=>DK hb (hlt x (.inr (.inl hx)))) (λx hx=>by simpa using hlt x (.inr (.inl hx))))
   (trodAll_cons_mk (WideElems.Trod_stays QQ rr3 z3 h2 (λx hx=>DK hb (hlt x (.inr (.inr hx)))) (λx hx=>by simpa using hlt x (.inr (.inr hx)))) trodAll_mk0))
def TN (d:DataW Unit):Array Value:=match d with
 |.agg ps=>(ps.map λ|.lit (.int k n)=>Value.int k n|_=>Value.nilIface).toArray
 |_=>#[]
noncomputable def fI (d:DataW Unit):Obj->Obj
 |.cells _ t frozen=>.cells (TN d) t frozen
 |o=>o
noncomputable def wG (os:Os):World:=
 {World.holding prog os ⟨#[],#[],[]⟩ with heap:=(((World.holding prog os ⟨#[],#[],[]⟩).heap.modify 0 (fI Rows.laid_internal_strconv_uint64pow10)).modify 1 (fI Rows.laid_math_bits_deBruijn32tab)).modify 2 (fI Rows.laid_math_bits_deBruijn64tab)}
def acV:Value:=.agg #[.slice none 0 0,.slice none 0 0]
def Tc (os:Os):laidMet prog Rows.machineOrdersUptoRow.laid ((wG os).forCall (λ_ _=>0) ⟨#[],#[acV,.int .i64 0,.int .i64 0],[]⟩).memory:=
 laidMet_of_run' 8 (by kernel_rfl) (by kernel_rfl)
def reads (os:Os){H:Type}(enc:TypeId×Value->H):∃places,DataW.whole enc prog ((wG os).forCall (λ_ _=>0) ⟨#[],#[acV,.int .i64 0,.int .i64 0],[]⟩).memory f6.params.toList Rows.machineOrdersSpec.vars false #[acV,.int .i64 0,.int .i64 0].toList 8=some ([.agg [.nil,.nil],.lit (.int .i64 0),.lit (.int .i64 0)],[],places):=
 ⟨[],by kernel_rfl⟩
set_option maxRecDepth 100000 in
def IS (os:Os)(started:os.Started)(H:Type)(enc:TypeId×Value->H)(F:Stop.Interp):
  ReturnsInHanded {} checked os 6 .any ((Rows.OpenSpec.upto Rows.machineOrdersSpec).preRow enc prog f6 Rows.machineOrdersUptoRow.domain false Rows.machineOrdersUptoRow.laid) (((Rows.OpenSpec.upto Rows.machineOrdersSpec).at F).post enc prog f6 false true false false):=by
 obtain⟨places,hx⟩:=reads os enc;refine returnsInHanded_of_row (C:=checked) (s:=Rows.OpenSpec.upto Rows.machineOrdersSpec) own5 started (by kernel_rfl) func6
  (witness_row_at (enc:=enc) (C:=checked) false (wG os) #[acV,.int .i64 0,.int .i64 0] rfl (by kernel_rfl) (by kernel_rfl) (by kernel_rfl)
   (OpenSpec.preRow_of_cond 8 hx (by kernel_rfl) (λk hk=>by cases hk;kernel_rfl) (by kernel_rfl) (Tc os))) ?_
 intro W base args ds gs before hval hW _ hcond _ hL _ _;exact Pt H enc W base args ds gs before hval hW (hcond _ rfl) hL
