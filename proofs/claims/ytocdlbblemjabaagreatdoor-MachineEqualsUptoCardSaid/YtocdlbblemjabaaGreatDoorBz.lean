/- Lemmas for MachineEquals (no condition). -/
import Derived.Test.YtocdlbblemjabaaGreatDoorProg
import Derived.Shelf.Spec.SlicesGrow
import Derived.Shelf.Strings.BuilderK
import Derived.Shelf.Strconv.Itoa3
import Derived.WalkKit
import Derived.BigCall
import Derived.Lib.BufferKept
import Derived.Test.YtocdlbblemjabaaGreatDoorAx
import Derived.Lib.ItoaLen
namespace Go.Proofs.YtocdlbblemjabaaGreatDoor
open Go.Shelf Go.Proofs Go.RowKit
theorem s_{α:Type}{a b:α}(h:a=b:=by kernel_rfl):some a=some b:=congrArg some h
def uD:Go.Shelf.Ren:=⟨λ|4=>107|n=>n,λ|22=>29|25=>3|3=>3|4=>4|9=>9|20=>20|0=>0|n=>n,λ|n=>n⟩
theorem Hp:Go.Proofs.Lays8.n4 Tryz.prog uD where
 mixed:=r_
 f4:=⟨ "slices.Grow[[]int,int]",by decide,Tryz.func107.trans s_⟩
 t0:=Tryz.underlying0
 a0:=Tryz.isAgg0
 z0:=Tryz.sizeOf0
 v0:=Tryz.zeroValue0
 t3:=Tryz.underlying3
 a3:=Tryz.isAgg3
 z3:=Tryz.sizeOf3
 v3:=Tryz.zeroValue3
 t4:=Tryz.underlying4
 a4:=Tryz.isAgg4
 z4:=Tryz.sizeOf4
 v4:=Tryz.zeroValue4
 t9:=Tryz.underlying9
 a9:=Tryz.isAgg9
 z9:=Tryz.sizeOf9
 v9:=Tryz.zeroValue9
 t20:=Tryz.underlying20
 a20:=Tryz.isAgg20
 z20:=Tryz.sizeOf20
 v20:=Tryz.zeroValue20
 t22:=Tryz.underlying29
 a22:=Tryz.isAgg29
 z22:=Tryz.sizeOf29
 v22:=Tryz.zeroValue29
def xh:Go.Shelf.Ren:=⟨λ|167=>176|240=>197|276=>217|n=>n,λ|70=>212|5=>5|75=>217|0=>0|72=>215|37=>213|4=>4|164=>257|80=>223|9=>9|n=>n,λ|n=>n⟩
theorem YH:Go.Proofs.Lays.n167 Tryz.prog xh where
 mixed:=r_
 f167:=Tryz.func176.trans s_
 f240:=Tryz.func197.trans s_
 f276:=Tryz.func217.trans s_
 t0:=Tryz.underlying0
 a0:=Tryz.isAgg0
 z0:=Tryz.sizeOf0
 v0:=Tryz.zeroValue0
 t4:=Tryz.underlying4
 a4:=Tryz.isAgg4
 z4:=Tryz.sizeOf4
 v4:=Tryz.zeroValue4
 t5:=Tryz.underlying5
 a5:=Tryz.isAgg5
 z5:=Tryz.sizeOf5
 v5:=Tryz.zeroValue5
 t9:=Tryz.underlying9
 a9:=Tryz.isAgg9
 z9:=Tryz.sizeOf9
 v9:=Tryz.zeroValue9
 t20:=Tryz.underlying20
 a20:=Tryz.isAgg20
 z20:=Tryz.sizeOf20
 v20:=Tryz.zeroValue20
 t37:=Tryz.underlying213
 a37:=Tryz.isAgg213
 z37:=Tryz.sizeOf213
 v37:=Tryz.zeroValue213
 t70:=Tryz.underlying212
 a70:=Tryz.isAgg212
 z70:=Tryz.sizeOf212
 v70:=Tryz.zeroValue212
 t72:=Tryz.underlying215
 a72:=Tryz.isAgg215
 z72:=Tryz.sizeOf215
 v72:=Tryz.zeroValue215
 t75:=Tryz.underlying217
 a75:=Tryz.isAgg217
 z75:=Tryz.sizeOf217
 v75:=Tryz.zeroValue217
 t164:=Tryz.underlying257
 a164:=Tryz.isAgg257
 z164:=Tryz.sizeOf257
 v164:=Tryz.zeroValue257
def xj:Go.Shelf.Ren:=⟨λ|166=>174|240=>197|276=>217|n=>n,λ|70=>212|9=>9|3=>3|75=>217|0=>0|72=>215|37=>213|4=>4|164=>257|80=>223|5=>5|n=>n,λ|n=>n⟩
theorem YI:Go.Proofs.Lays.n166 Tryz.prog xj where
 mixed:=r_
 f166:=Tryz.func174.trans s_
 f240:=Tryz.func197.trans s_
 f276:=Tryz.func217.trans s_
 t0:=Tryz.underlying0
 a0:=Tryz.isAgg0
 z0:=Tryz.sizeOf0
 v0:=Tryz.zeroValue0
 t3:=Tryz.underlying3
 a3:=Tryz.isAgg3
 z3:=Tryz.sizeOf3
 v3:=Tryz.zeroValue3
 t4:=Tryz.underlying4
 a4:=Tryz.isAgg4
 z4:=Tryz.sizeOf4
 v4:=Tryz.zeroValue4
 t9:=Tryz.underlying9
 a9:=Tryz.isAgg9
 z9:=Tryz.sizeOf9
 v9:=Tryz.zeroValue9
 t20:=Tryz.underlying20
 a20:=Tryz.isAgg20
 z20:=Tryz.sizeOf20
 v20:=Tryz.zeroValue20
 t37:=Tryz.underlying213
 a37:=Tryz.isAgg213
 z37:=Tryz.sizeOf213
 v37:=Tryz.zeroValue213
 t70:=Tryz.underlying212
 a70:=Tryz.isAgg212
 z70:=Tryz.sizeOf212
 v70:=Tryz.zeroValue212
 t72:=Tryz.underlying215
 a72:=Tryz.isAgg215
 z72:=Tryz.sizeOf215
 v72:=Tryz.zeroValue215
 t75:=Tryz.underlying217
 a75:=Tryz.isAgg217
 z75:=Tryz.sizeOf217
 v75:=Tryz.zeroValue217
 t164:=Tryz.underlying257
 a164:=Tryz.isAgg257
 z164:=Tryz.sizeOf257
 v164:=Tryz.zeroValue257
def xg:Go.Shelf.Ren:=⟨λ|169=>177|n=>n,λ|70=>212|9=>9|0=>0|72=>215|37=>213|127=>239|3=>3|5=>5|n=>n,λ|n=>n⟩
theorem YG:Go.Proofs.Lays.n169 Tryz.prog xg where
 mixed:=r_
 f169:=Tryz.func177.trans s_
 t0:=Tryz.underlying0
 a0:=Tryz.isAgg0
 z0:=Tryz.sizeOf0
 v0:=Tryz.zeroValue0
 t3:=Tryz.underlying3
 a3:=Tryz.isAgg3
 z3:=Tryz.sizeOf3
 v3:=Tryz.zeroValue3
 t9:=Tryz.underlying9
 a9:=Tryz.isAgg9
 z9:=Tryz.sizeOf9
 v9:=Tryz.zeroValue9
 t37:=Tryz.underlying213
 a37:=Tryz.isAgg213
 z37:=Tryz.sizeOf213
 v37:=Tryz.zeroValue213
 t70:=Tryz.underlying212
 a70:=Tryz.isAgg212
 z70:=Tryz.sizeOf212
 v70:=Tryz.zeroValue212
 t72:=Tryz.underlying215
 a72:=Tryz.isAgg215
 z72:=Tryz.sizeOf215
 v72:=Tryz.zeroValue215
 t127:=Tryz.underlying239
 a127:=Tryz.isAgg239
 z127:=Tryz.sizeOf239
 v127:=Tryz.zeroValue239
def Dt:Go.Shelf.Ren:=⟨λ|171=>175|243=>198|246=>218|283=>228|284=>229|285=>230|286=>231|129=>236|317=>235|318=>237|319=>238|320=>239|337=>243|338=>244|n=>n,λ|3=>3|9=>9|2=>2|4=>4|171=>269|0=>0|53=>270|37=>213|5=>5|173=>273|212=>276|51=>277|20=>20|213=>278|46=>279|232=>291|233=>292|n=>n,λ|17=>0|18=>1|19=>2|n=>n⟩
theorem Ta:Go.Proofs.LaysM.n171 Tryz.prog Dt where
 mixed:=r_
 f129:=Tryz.func236.trans s_
 f171:=Tryz.func175.trans s_
 f243:=Tryz.func198.trans s_
 f246:=Tryz.func218.trans s_
 f283:=Tryz.func228.trans s_
 f284:=Tryz.func229.trans s_
 f285:=Tryz.func230.trans s_
 f286:=Tryz.func231.trans s_
 f317:=Tryz.func235.trans s_
 f318:=Tryz.func237.trans s_
 f319:=Tryz.func238.trans s_
 f320:=Tryz.func239.trans s_
 f337:=Tryz.func243.trans s_
 f338:=Tryz.func244.trans s_
 t0:=Tryz.underlying0
 a0:=Tryz.isAgg0
 z0:=Tryz.sizeOf0
 v0:=Tryz.zeroValue0
 t2:=Tryz.underlying2
 a2:=Tryz.isAgg2
 z2:=Tryz.sizeOf2
 v2:=Tryz.zeroValue2
 t3:=Tryz.underlying3
 a3:=Tryz.isAgg3
 z3:=Tryz.sizeOf3
 v3:=Tryz.zeroValue3
 t4:=Tryz.underlying4
 a4:=Tryz.isAgg4
 z4:=Tryz.sizeOf4
 v4:=Tryz.zeroValue4
 t5:=Tryz.underlying5
 a5:=Tryz.isAgg5
 z5:=Tryz.sizeOf5
 v5:=Tryz.zeroValue5
 t9:=Tryz.underlying9
 a9:=Tryz.isAgg9
 z9:=Tryz.sizeOf9
 v9:=Tryz.zeroValue9
 t20:=Tryz.underlying20
 a20:=Tryz.isAgg20
 z20:=Tryz.sizeOf20
 v20:=Tryz.zeroValue20
 t37:=Tryz.underlying213
 a37:=Tryz.isAgg213
 z37:=Tryz.sizeOf213
 v37:=Tryz.zeroValue213
 t46:=Tryz.underlying279
 a46:=Tryz.isAgg279
 z46:=Tryz.sizeOf279
 v46:=Tryz.zeroValue279
 t51:=Tryz.underlying277
 a51:=Tryz.isAgg277
 z51:=Tryz.sizeOf277
 v51:=Tryz.zeroValue277
 t53:=Tryz.underlying270
 a53:=Tryz.isAgg270
 z53:=Tryz.sizeOf270
 v53:=Tryz.zeroValue270
 t171:=Tryz.underlying269
 a171:=Tryz.isAgg269
 z171:=Tryz.sizeOf269
 v171:=Tryz.zeroValue269
 t173:=Tryz.underlying273
 a173:=Tryz.isAgg273
 z173:=Tryz.sizeOf273
 v173:=Tryz.zeroValue273
 t212:=Tryz.underlying276
 a212:=Tryz.isAgg276
 z212:=Tryz.sizeOf276
 v212:=Tryz.zeroValue276
 t213:=Tryz.underlying278
 a213:=Tryz.isAgg278
 z213:=Tryz.sizeOf278
 t232:=Tryz.underlying291
 a232:=Tryz.isAgg291
 z232:=Tryz.sizeOf291
 v232:=Tryz.zeroValue291
 t233:=Tryz.underlying292
 a233:=Tryz.isAgg292
 z233:=Tryz.sizeOf292
 v233:=Tryz.zeroValue292
 g17:=r_
 g18:=r_
 g19:=r_
 i0:=r_
 i2:=r_
 i3:=r_
 i4:=r_
 i5:=r_
 i9:=r_
 i20:=r_
 i37:=r_
 i46:=r_
 i51:=r_
 i53:=r_
 i171:=r_
 i173:=r_
 i212:=r_
 i232:=r_
 i233:=r_
 m17:=r_
 m18:=r_
 m19:=r_
theorem adV:Builder.Extra Tryz.prog xh where
 sizeBuilder:=r_
 liesBuilder:=r_
 t5:=Tryz.underlying5
 a5:=Tryz.isAgg5
 z5:=Tryz.sizeOf5
 v5:=Tryz.zeroValue5
 infoByte:=r_
 cellsByte:=r_
 sizeByte:=r_
 neB5:=by decide
theorem adW:Builder.Extra Tryz.prog xj where
 sizeBuilder:=r_
 liesBuilder:=r_
 t5:=Tryz.underlying5
 a5:=Tryz.isAgg5
 z5:=Tryz.sizeOf5
 v5:=Tryz.zeroValue5
 infoByte:=r_
 cellsByte:=r_
 sizeByte:=r_
 neB5:=by decide
theorem adU:Builder.Extra Tryz.prog xg where
 sizeBuilder:=r_
 liesBuilder:=r_
 t5:=Tryz.underlying5
 a5:=Tryz.isAgg5
 z5:=Tryz.sizeOf5
 v5:=Tryz.zeroValue5
 infoByte:=r_
 cellsByte:=r_
 sizeByte:=r_
 neB5:=by decide
theorem aap (B b:Nat)(bs:List Value)(c:Int)(w:World)(h:Lib.IsBuilderF 215 5 B b bs w)(a:bs.length+1<=140737488355328)(f:B<=w.heap.size):
  Calls Tryz.prog 176 #[.pointer (some ⟨b,0,none⟩),.int .u8 c] w λe d=>e=.returned .nilIface/\(Lib.BuilderAtF 215 5 B b (.pointer (some ⟨b,0,none⟩)) (bs++[.int .u8 c]) d/\Below B w d/\Lib.OthersKept 5 (some b) w d):=
 Any.Builder_WriteByte_k YH adV B b bs c w h a f
theorem KX (B b:Nat)(bs:List Value)(s:ByteArray)(w:World)(h:Lib.IsBuilderF 215 5 B b bs w)(a:bs.length+s.size<=140737488355328)(d:B<=w.heap.size):
  Calls Tryz.prog 174 #[.pointer (some ⟨b,0,none⟩),.string s] w λe c=>e=.returned (.tuple #[.int .i64 s.size,.nilIface])/\(Lib.BuilderAtF 215 5 B b (.pointer (some ⟨b,0,none⟩)) (bs++Lib.strCells s) c/\Below B w c/\Lib.OthersKept 5 (some b) w c):=
 Any.Builder_WriteString_k YI adW B b bs s w h a d
theorem NJ (B b:Nat)(l:List UInt8)(w:World)(h:Lib.IsBuilderF 215 5 B b (Lib.byteCells l) w)(c:B<=w.heap.size):
  Calls Tryz.prog 177 #[.pointer (some ⟨b,0,none⟩)] w λe a=>e=.returned (.string ⟨l.toArray⟩)/\(Lib.IsBuilderF 215 5 B b (Lib.byteCells l) a/\Below B w a/\Lib.OthersKept 5 (some b) w a):=
 Any.Builder_String_any_k YG adU B b l w h c
theorem YO (n:Int)(c : -9223372036854775808<=n)(f:n<=9223372036854775807)(w:World)(a:Lib.TabIs Tryz.prog w "internal/strconv.uint64pow10" .u64 Lib.pow10Tab) :
  Calls Tryz.prog 175 #[.int .i64 n] w λe b=>e=.returned (.string ⟨(Lib.itoa n).toArray⟩)/\∃k d,b=Sort.grow (w.drewN k) d:=
 Any.strconv_Itoa Ta n c f w a
theorem Jr (w:World)(q:Nat)(a:Array Obj):Below w.heap.size w (Sort.grow (w.drewN q) a):=
 ⟨rfl,rfl,rfl,by show w.heap.size<=(w.heap++a).size;simp,λk hk=>by show(w.heap++a)[k]?=_;rw[Array.getElem?_append_left hk]⟩
theorem Ih {B b:Nat}{bs:List Value}{W W':World}(h:Lib.IsBuilderF 215 5 B b bs W)(a:Below W.heap.size W W'):Lib.IsBuilderF 215 5 B b bs W':=by
 have k:∀p,Lib.BuilderAtF 215 5 B b p bs W->Lib.BuilderAtF 215 5 B b p bs W':=λp h=>by
  have d:=h.lt;obtain⟨g,v,f,c,e⟩:=h;exact⟨g,v,(a.block b d).trans f,c.kept (row:=none) ⟨a.os,a.tape,a.output,a.size,λk hk _=>a.block k hk⟩ (Classical.em _),e⟩
 exact h.elim (λx=>.inl (k _ x)) (λx=>.inr (k _ x))
theorem Fw {b:Nat}{a w c:World}(h:Lib.OthersKept 5 (some b) a w)(d:Below w.heap.size w c):Lib.OthersKept 5 (some b) a c:=h.below d
set_option maxHeartbeats 4000000 in
theorem OK (B b:Nat)(l:List UInt8)(n:Int)(w:World)(y : -9223372036854775808<=n)(D:n<=9223372036854775807)(u:Lib.IsBuilderF 215 5 B b (Lib.byteCells l) w)(r:l.length+100<=140737488355328)(p:B<=w.heap.size)
  (c:Lib.TabIs Tryz.prog w "internal/strconv.uint64pow10" .u64 Lib.pow10Tab) (G:(Lib.itoa n).length<=30) :
  Calls Tryz.prog 173 #[.int .i64 n,.pointer (some ⟨b,0,none⟩)] w λe f=>e=.returned (.tuple #[])/\Lib.IsBuilderF 215 5 B b (Lib.byteCells (l++Lib.itoa n++[32])) f/\Below B w f/\Lib.OthersKept 5 (some b) w f:=by
 go_enter Tryz.func173,Tryz.ntmps173
 go_wp2_with (go_at_call 175;refine(YO n y D _ c).mono ?_)
 rintro e F ⟨rfl,k,h,rfl⟩;have d:=Jr w k h;have i:=Ih u d;have z:=Fw (Lib.OthersKept.refl 5 (some b) w) d;have a:=Nat.le_trans p d.size;generalize Sort.grow (w.drewN k) h=E at *;have hs:(⟨(Lib.itoa n).toArray⟩:ByteArray).size=(Lib.itoa n).length:=by simp[ByteArray.size]
 go_wp2_with (go_at_call 174;refine(KX B b _ _ _ i (by rw[Lib.byteCells_length,hs];omega) a).mono ?_)
 rintro e t ⟨rfl,m,o,A⟩;have g:=Nat.le_trans a o.size;have C:Lib.byteCells l++Lib.strCells (⟨(Lib.itoa n).toArray⟩:ByteArray)=Lib.byteCells (l++Lib.itoa n):=by simp[Lib.strCells,Lib.byteCells]
 rw[C]at m;have j:(Lib.byteCells (l++Lib.itoa n)).length+1<=140737488355328:=by rw[Lib.byteCells_length,List.length_append];omega
 go_wp2_with (go_at_call 176;refine(aap B b _ 32 _ (.inr m) j g).mono ?_)
 rintro e H ⟨rfl,q,s,v⟩
 go_wp2
 go_end0
 refine⟨rfl,?_,((d.mono p).trans o).trans s,(z.trans A).trans v⟩;have x:Lib.byteCells (l++Lib.itoa n)++[Value.int .u8 32]=Lib.byteCells (l++Lib.itoa n++[32]):=by simp[Lib.byteCells]
 rw[x]at q;exact .inr q
end Go.Proofs.YtocdlbblemjabaaGreatDoor
namespace Go.Proofs.YtocdlbblemjabaaGreatDoor
open Go.Shelf Go.Proofs Go.RowKit Go.AG Go.AG.MK
structure RVs (w:World)(v:Value)(l:List LV):Prop where
 at_:∃base cap,v=.slice base l.length cap/\∀(j:Nat) x,l[j]?=some x->∃b off,base=some ⟨b,off,none⟩/\b<w.heap.size/\w.cell? ⟨b,off+2*j,none⟩=some (.int .i64 x.X)/\w.cell? ⟨b,off+2*j+1,none⟩=some (.int .i64 x.P)
structure RLs (w:World)(v:Value)(l:List LL):Prop where
 at_:∃base cap,v=.slice base l.length cap/\∀(j:Nat) x,l[j]?=some x->∃b off u,base=some ⟨b,off,none⟩/\b<w.heap.size/\w.cell? ⟨b,off+2*j,none⟩=some (.int .i64 x.c)/\w.cell? ⟨b,off+2*j+1,none⟩=some u/\RVs w u x.V
structure RKs (w:World)(v:Value)(l:List Int):Prop where
 at_:∃base cap,v=.slice base l.length cap/\∀(j:Nat) x,l[j]?=some x->∃b off,base=some ⟨b,off,none⟩/\b<w.heap.size/\w.cell? ⟨b,off+j,none⟩=some (.int .i64 x)
def inI (n:Int):Prop:=-9223372036854775808<=n/\n<=9223372036854775807
def KW (w:World)(n:NV)(ls ks:Value):World:=(w.alloc (.cells #[.int .i64 n.D,.int .i64 n.X,.string n.N,ls,ks] 94)).alloc (.cells #[.pointer none,.slice none 0 0] 215)
theorem ZT (w:World)(n:NV)(ls ks:Value):(KW w n ls ks).heap.size=w.heap.size+2:=by simp[KW]
structure im (w:World)(n:NV)(ls ks:Value)(acc rest:List UInt8)(W:World):Prop where
 I:Lib.IsBuilderF 215 5 (w.heap.size+1) (w.heap.size+1) (Lib.byteCells acc) W
 be:Below (w.heap.size+1) (KW w n ls ks) W
 eq:acc++rest=dN n
 len:(dN n).length<=1000000000
 tab:Lib.TabIs Tryz.prog w "internal/strconv.uint64pow10" .u64 Lib.pow10Tab
section
variable {w W W':World}{n:NV}{ls ks:Value}{acc rest:List UInt8}
theorem im.start (len:(dN n).length<=1000000000)(a:Lib.TabIs Tryz.prog w "internal/strconv.uint64pow10" .u64 Lib.pow10Tab):im w n ls ks [] (dN n) (KW w n ls ks):=
 ⟨by
  have h:=Lib.IsBuilderF.of (Lib.fresh_isBuilder 215 5 (w.alloc (.cells #[.int .i64 n.D,.int .i64 n.X,.string n.N,ls,ks] 94)));have e:(w.alloc (.cells #[.int .i64 n.D,.int .i64 n.X,.string n.N,ls,ks] 94)).heap.size=w.heap.size+1:=by simp
  rw[e]at h;exact h,Below.refl _ _,rfl,len,a⟩
theorem im.size (s:im w n ls ks acc rest W):w.heap.size+1<=W.heap.size:=by have:=s.be.size;rw[ZT]at this;omega
theorem im.blk (s:im w n ls ks acc rest W):W.heap[w.heap.size]?=some (.cells #[.int .i64 n.D,.int .i64 n.X,.string n.N,ls,ks] 94):=by
 rw[s.be.block _ o_];show(World.alloc (World.alloc w _) _).heap[w.heap.size]?=_;rw[Below.heap_alloc _ _ _ (by simp),heap_alloc_new]
theorem im.old (s:im w n ls ks acc rest W){p:Addr}(h:p.block<w.heap.size):W.cell? p=w.cell? p:=by
 rw[s.be.cell o_];show World.cell? (World.alloc (World.alloc w _) _) p=_;rw[World.cell?_of_block (w:=World.alloc w _) (Below.heap_alloc _ _ _ (by simp;omega)),World.cell?_of_block (w:=w) (Below.heap_alloc _ _ _ h)]
theorem im.up (s:im w n ls ks acc rest W)(b:Below W.heap.size W W'):im w n ls ks acc rest W':=
 ⟨Ih s.I b,s.be.trans (b.mono s.size),s.eq,s.len,s.tab⟩
theorem im.tabW (s:im w n ls ks acc rest W):Lib.TabIs Tryz.prog W "internal/strconv.uint64pow10" .u64 Lib.pow10Tab:=by
 refine Kg _ _ s.tab λb a=>?_
 rw[s.be.block b o_];show(World.alloc (World.alloc w _) _).heap[b]?=_;rw[Below.heap_alloc _ _ _ (by simp;omega),Below.heap_alloc _ _ _ a]
theorem im.lens (s:im w n ls ks acc rest W):acc.length+rest.length<=1000000000:=by
 have:=congrArg List.length s.eq;rw[List.length_append]at this;have:=s.len;omega
theorem im.number {m:Int}(s:im w n ls ks acc (Lib.itoa m++32::rest) W)(hm:inI m):
  Calls Tryz.prog 173 #[.int .i64 m,.pointer (some ⟨w.heap.size+1,0,none⟩)] W λe a=>e=.returned (.tuple #[])/\im w n ls ks (acc++Lib.itoa m++[32]) rest a/\Lib.OthersKept 5 (some (w.heap.size+1)) W a:=by
 have f:=Lib.itoa_length_le m hm.1 hm.2;have g:=s.lens;refine(OK (w.heap.size+1) (w.heap.size+1) acc m W hm.1 hm.2 s.I o_ s.size s.tabW o_).mono ?_;rintro e a ⟨rfl,b,c,d⟩;exact⟨rfl,⟨b,s.be.trans c,by rw[List.append_assoc,List.append_assoc];exact s.eq,s.len,s.tab⟩,d⟩
theorem im.byte {c:UInt8}{z:Int}(s:im w n ls ks acc (c::rest) W)(d:z=c.toNat):
  Calls Tryz.prog 176 #[.pointer (some ⟨w.heap.size+1,0,none⟩),.int .u8 z] W λe a=>e=.returned .nilIface/\im w n ls ks (acc++[c]) rest a/\Lib.OthersKept 5 (some (w.heap.size+1)) W a:=by
 have i:=s.lens;refine(aap (w.heap.size+1) (w.heap.size+1) (Lib.byteCells acc) z W s.I (by rw[Lib.byteCells_length];omega) s.size).mono ?_;rintro e a ⟨rfl,b,f,h⟩;have g:Lib.byteCells acc++[.int .u8 z]=Lib.byteCells (acc++[c]):=by subst d;simp[Lib.byteCells]
 rw[g]at b;exact⟨rfl,⟨.inr b,s.be.trans f,by rw[List.append_assoc];exact s.eq,s.len,s.tab⟩,h⟩
theorem im.str {t:ByteArray}(s:im w n ls ks acc (t.data.toList++rest) W):
  Calls Tryz.prog 174 #[.pointer (some ⟨w.heap.size+1,0,none⟩),.string t] W λe a=>e=.returned (.tuple #[.int .i64 t.size,.nilIface])/\im w n ls ks (acc++t.data.toList) rest a/\Lib.OthersKept 5 (some (w.heap.size+1)) W a:=by
 have d:=s.lens;have hs:t.size=t.data.toList.length:=by rw[Array.length_toList];rfl
 rw[List.length_append]at d;refine(KX (w.heap.size+1) (w.heap.size+1) (Lib.byteCells acc) t W s.I (by rw[Lib.byteCells_length];omega) s.size).mono ?_;rintro e a ⟨rfl,b,c,f⟩;rw[Lib.strCells_eq,<-Lib.byteCells_append]at b;exact⟨rfl,⟨.inr b,s.be.trans c,by rw[List.append_assoc];exact s.eq,s.len,s.tab⟩,f⟩
theorem im.string (s:im w n ls ks acc [] W):
  Calls Tryz.prog 177 #[.pointer (some ⟨w.heap.size+1,0,none⟩)] W λe a=>e=.returned (.string ⟨(dN n).toArray⟩)/\Below w.heap.size w a:=by
 have b:acc=dN n:=by rw[<-s.eq];simp
 refine(NJ (w.heap.size+1) (w.heap.size+1) acc W s.I s.size).mono ?_;rintro e a ⟨rfl,f,c,g⟩;subst b;have d:Below w.heap.size w (KW w n ls ks):=((Below.refl _ w).alloc (e_ _) _).alloc (by simp) _;exact⟨rfl,d.trans ((s.be.trans c).mono o_)⟩
end
structure InR (n:NV):Prop where
 k:inI n.D
 i:inI n.X
 l:∀x∈n.L,inI x.c/\∀v∈x.V,inI v.X/\inI v.P
 d:∀x∈n.K,inI x
 nl:n.L.length<=1000000
 nv:∀x∈n.L,x.V.length<=1000000
 nk:n.K.length<=1000000
theorem AD {a:Type}{l:List a}{p:Nat}{x:a}(h:l[p]?=some x):l.drop p=x::l.drop (p+1):=by
 obtain⟨c,b⟩:=E_.1 h;rw[List.drop_eq_getElem_cons c,b]
set_option maxHeartbeats 8000000 in
theorem Td (n:NV)(ls ks:Value)(w:World)(hl:RLs w ls n.L)(hk:RKs w ks n.K)(hr:InR n)(len:(dN n).length<=1000000000)(htab:Lib.TabIs Tryz.prog w "internal/strconv.uint64pow10" .u64 Lib.pow10Tab) :
  Calls Tryz.prog 138 #[.agg #[.int .i64 n.D,.int .i64 n.X,.string n.N,ls,ks]] w λe w'=>e=.returned (.string ⟨(dN n).toArray⟩)/\Below w.heap.size w w':=by
 obtain⟨lb,lc,rfl,hls⟩:=hl.at_;obtain⟨kb,kc,rfl,hks⟩:=hk.at_;have s0:=im.start (ls:=.slice lb n.L.length lc) (ks:=.slice kb n.K.length kc) len htab;have s0:=s0;have bl:=hr.nl;have bk:=hr.nk
 go_enter Tryz.func138,Tryz.ntmps138
 go_wp2_with (go_at_call 173;refine(s0.number hr.k).mono ?_)
 rintro e W1 ⟨rfl,s1,-⟩;have g1:W1.cell? ⟨w.heap.size,1,none⟩=some (.int .i64 n.X):=by rw[Lib.cell_of_heap s1.blk];rfl
 go_wp2_with (go_at_call 173;refine(s1.number hr.i).mono ?_)
 rintro e W2 ⟨rfl,s2,-⟩;have g2:W2.cell? ⟨w.heap.size,2,none⟩=some (.string n.N):=by rw[Lib.cell_of_heap s2.blk];rfl
 go_wp2_with (go_at_call 174;refine(s2.str).mono ?_)
 rintro e W3 ⟨rfl,s3,-⟩;have g3:W3.cell? ⟨w.heap.size,3,none⟩=some (.slice lb n.L.length lc):=by rw[Lib.cell_of_heap s3.blk];rfl
 clear g1 g2 s0 s1 s2
 go_wp2
 go_loopw [26] (λi wr=>∃(p:Nat) (acc:List UInt8),p<=n.L.length/\i=.int .i64 p/\im w n (.slice lb n.L.length lc) (.slice kb n.K.length kc) acc ((n.L.drop p).flatMap uf++124::n.K.flatMap λk=>Lib.itoa k++[32]) wr)
  (λi _=>n.L.length-(intOf i).toNat)
 case atStart=>exact⟨0,_,Nat.zero_le _,rfl,s3⟩
 case round=>
  obtain⟨p,acc,hp,rfl,st⟩:=hrel;by_cases hlt:p<n.L.length
  ·obtain⟨x,hx⟩:∃x,n.L[p]?=some x:=⟨_,a_ hlt⟩
   obtain⟨b,off,u,rfl,hb,c0,c1,rv⟩:=hls p x hx;obtain⟨vb,vc,rfl,hvs⟩:=rv.at_;have e0:wr.cell? ⟨b,off+p*2,none⟩=some (.int .i64 x.c):=by rw[st.old hb,Nat.mul_comm];exact c0
   have e1:wr.cell? ⟨b,off+p*2+1,none⟩=some (.slice vb x.V.length vc):=by rw[st.old hb,Nat.mul_comm];exact c1
   have hd:((n.L.drop p).flatMap uf++124::n.K.flatMap λk=>Lib.itoa k++[32])=91::(Lib.itoa x.c++32::((x.V.flatMap λv=>Lib.itoa v.X++32::(Lib.itoa v.P++[32]))++((n.L.drop (p+1)).flatMap uf++124::n.K.flatMap λk=>Lib.itoa k++[32]))):=by
    rw[AD hx,List.flatMap_cons,uf];simp
   rw[hd]at st;obtain⟨hxc,hxv⟩:=hr.l x (m_ hx);have bv:=hr.nv x (m_ hx);have hnb:wr.heap.size≠w.heap.size+1:=by
    have:=st.I;have:w.heap.size+1<wr.heap.size:=by rcases this with h|h<;>exact h.lt
    omega
   have hal:(wr.alloc (Obj.cells #[Value.int IntKind.i64 x.c,Value.slice vb x.V.length vc] 113)).heap[wr.heap.size]?=some (Obj.cells #[Value.int IntKind.i64 x.c,Value.slice vb x.V.length vc] 113):=heap_alloc_new _ _;have stA:=st.up ((Below.refl wr.heap.size wr).alloc (e_ _) (Obj.cells #[Value.int IntKind.i64 x.c,Value.slice vb x.V.length vc] 113))
   go_wp2_with (go_at_call 176;refine(stA.byte rfl).mono ?_)
   rintro e W4 ⟨rfl,st4,o4⟩;have k4:=o4 _ _ hal (by simpa using hnb) (by intro c fz h;injection h with _ h _;exact absurd h (by decide));have d4:W4.cell? ⟨wr.heap.size,0,none⟩=some (.int .i64 x.c):=by rw[Lib.cell_of_heap k4];rfl
   go_wp2_with (go_at_call 173;refine(st4.number hxc).mono ?_)
   rintro e W5 ⟨rfl,st5,o5⟩;have k5:=o5 _ _ k4 (by simpa using hnb) (by intro c fz h;injection h with _ h _;exact absurd h (by decide));have d5:W5.cell? ⟨wr.heap.size,1,none⟩=some (.slice vb x.V.length vc):=by rw[Lib.cell_of_heap k5];rfl
   clear d4 e0 e1 k4 k5 o4 o5 stA hal st hd
   go_wp2
   go_loopw [38] (λi wr=>∃(q:Nat) (acc:List UInt8),q<=x.V.length/\i=.int .i64 q/\im w n (.slice (some ⟨b,off,none⟩) n.L.length lc) (.slice kb n.K.length kc) acc (((x.V.drop q).flatMap λv=>Lib.itoa v.X++32::(Lib.itoa v.P++[32]))++((n.L.drop (p+1)).flatMap uf++124::n.K.flatMap λk=>Lib.itoa k++[32])) wr)
    (λi _=>x.V.length-(intOf i).toNat)
   case atStart=>exact⟨0,_,Nat.zero_le _,rfl,st5⟩
   case round=>
    clear d5 st5;obtain⟨q,acc2,hq,rfl,sq⟩:=hrel;by_cases hltq:q<x.V.length
    ·obtain⟨y,hy⟩:∃y,x.V[q]?=some y:=⟨_,a_ hltq⟩
     obtain⟨b2,off2,rfl,hb2,c2,c3⟩:=hvs q y hy;have f0:wr.cell? ⟨b2,off2+q*2,none⟩=some (.int .i64 y.X):=by rw[sq.old hb2,Nat.mul_comm];exact c2
     have f1:wr.cell? ⟨b2,off2+q*2+1,none⟩=some (.int .i64 y.P):=by rw[sq.old hb2,Nat.mul_comm];exact c3
     have hdq:((x.V.drop q).flatMap λv=>Lib.itoa v.X++32::(Lib.itoa v.P++[32]))++((n.L.drop (p+1)).flatMap uf++124::n.K.flatMap λk=>Lib.itoa k++[32])=Lib.itoa y.X++32::(Lib.itoa y.P++32::(((x.V.drop (q+1)).flatMap λv=>Lib.itoa v.X++32::(Lib.itoa v.P++[32]))++((n.L.drop (p+1)).flatMap uf++124::n.K.flatMap λk=>Lib.itoa k++[32]))):=by
      rw[AD hy,List.flatMap_cons];simp
     rw[hdq]at sq;obtain⟨hy1,hy2⟩:=hxv y (m_ hy);have hnq:wr.heap.size≠w.heap.size+1:=by
      have:=sq.I;have:w.heap.size+1<wr.heap.size:=by rcases this with h|h<;>exact h.lt
      omega
     have halq:(wr.alloc (Obj.cells #[Value.int IntKind.i64 y.X,Value.int IntKind.i64 y.P] 160)).heap[wr.heap.size]?=some (Obj.cells #[Value.int IntKind.i64 y.X,Value.int IntKind.i64 y.P] 160):=heap_alloc_new _ _;have sqA:=sq.up ((Below.refl wr.heap.size wr).alloc (e_ _) (Obj.cells #[Value.int IntKind.i64 y.X,Value.int IntKind.i64 y.P] 160));clear hdq
     go_wp2_with (go_at_call 173;refine(sqA.number hy1).mono ?_)
     rintro e W6 ⟨rfl,st6,o6⟩;have k6:=o6 _ _ halq (by simpa using hnq) (by intro c fz h;injection h with _ h _;exact absurd h (by decide));have d6:W6.cell? ⟨wr.heap.size,1,none⟩=some (.int .i64 y.P):=by rw[Lib.cell_of_heap k6];rfl
     go_wp2_with (go_at_call 173;refine(st6.number hy2).mono ?_)
     rintro e W7 ⟨rfl,st7,o7⟩;clear d6 k6 o6 o7 halq sqA sq f0 f1 st6
     go_wp2
     go_roundw
     case rel=>exact⟨q+1,_,o_,by go_num,st7⟩
     case measure=>simp[intOf];omega
    have hqe:q=x.V.length:=o_;subst hqe;rw[List.drop_length,List.flatMap_nil,List.nil_append]at sq
    go_wp2
    go_roundw
    case rel=>exact⟨p+1,_,o_,by go_num,sq⟩
    case measure=>simp[intOf];omega
  have hpe:p=n.L.length:=o_;subst hpe;rw[List.drop_length,List.flatMap_nil,List.nil_append]at st
  go_wp2_with (go_at_call 176;refine(st.byte rfl).mono ?_)
  rintro e W4 ⟨rfl,st4,-⟩;have d4:W4.cell? ⟨w.heap.size,4,none⟩=some (.slice kb n.K.length kc):=by rw[Lib.cell_of_heap st4.blk];rfl
  go_wp2
  go_loopw [56] (λi wr=>∃(q:Nat) (acc:List UInt8),q<=n.K.length/\i=.int .i64 q/\im w n (.slice lb n.L.length lc) (.slice kb n.K.length kc) acc ((n.K.drop q).flatMap λk=>Lib.itoa k++[32]) wr)
   (λi _=>n.K.length-(intOf i).toNat)
  case atStart=>exact⟨0,_,Nat.zero_le _,rfl,st4⟩
  case round=>
   clear d4 st4;obtain⟨q,acc2,hq,rfl,sq⟩:=hrel;by_cases hltq:q<n.K.length
   ·obtain⟨y,hy⟩:∃y,n.K[q]?=some y:=⟨_,a_ hltq⟩
    obtain⟨b2,off2,rfl,hb2,c2⟩:=hks q y hy;have f0:wr.cell? ⟨b2,off2+q,none⟩=some (.int .i64 y):=by rw[sq.old hb2];exact c2
    have hdq:((n.K.drop q).flatMap λk=>Lib.itoa k++[32])=Lib.itoa y++32::((n.K.drop (q+1)).flatMap λk=>Lib.itoa k++[32]):=by
     rw[AD hy,List.flatMap_cons];simp
    rw[hdq]at sq;clear hdq
    go_wp2_with (go_at_call 173;refine(sq.number (hr.d y (m_ hy))).mono ?_)
    rintro e W6 ⟨rfl,st6,-⟩;clear sq f0
    go_wp2
    go_roundw
    case rel=>exact⟨q+1,_,o_,by go_num,st6⟩
    case measure=>simp[intOf];omega
   have hqe:q=n.K.length:=o_;subst hqe;rw[List.drop_length,List.flatMap_nil]at sq
   go_wp2_with (go_at_call 177;refine(sq.string).mono ?_)
   rintro e W8 ⟨rfl,b8⟩
   go_wp2
   go_ret
   exact⟨rfl,b8⟩
