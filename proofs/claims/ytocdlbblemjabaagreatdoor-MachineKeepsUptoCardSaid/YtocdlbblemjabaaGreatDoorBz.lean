/- MachineKeeps: contracts of the library at this program's numbers: slices.Grow, strings.Builder, strconv.Itoa (the tables are written by a tool of the kit; no condition). -/
import Derived.Test.YtocdlbblemjabaaGreatDoorProg
import Derived.Shelf.Spec.SlicesGrow
import Derived.Shelf.Strings.BuilderK
import Derived.Shelf.Strconv.Itoa3
import Derived.WalkKit
import Derived.BigCall
import Derived.Lib.BufferKept
import Derived.Test.YtocdlbblemjabaaGreatDoorAz
import Derived.Lib.ItoaLen
namespace Go.Proofs.YtocdlbblemjabaaGreatDoor
open Go.Shelf Go.Proofs Go.RowKit
def qT:Go.Shelf.Ren:=⟨fun|4=>107|n=>n,fun|22=>29|25=>3|3=>3|4=>4|9=>9|20=>20|0=>0|n=>n,fun|n=>n⟩
theorem EK:Go.Proofs.Lays8.n4 Tryz.prog qT where
 mixed:=r_
 f4:=⟨ "slices.Grow[[]int,int]",by decide,Tryz.func107.trans (congrArg some (by kernel_rfl))⟩
 t0:=Tryz.underlying0
 a0:=Tryz.isAgg0
 z0:=Tryz.sizeOf0
 v0:=Tryz.zeroValue0
 t3:=Tryz.underlying3
 a3:=Tryz.isAgg3
 z3:=Tryz.sizeOf3
 v3:=Tryz.zeroValue3
 t4:=Tryz.underlying4
 a4:=Tryz.isAgg4
 z4:=Tryz.sizeOf4
 v4:=Tryz.zeroValue4
 t9:=Tryz.underlying9
 a9:=Tryz.isAgg9
 z9:=Tryz.sizeOf9
 v9:=Tryz.zeroValue9
 t20:=Tryz.underlying20
 a20:=Tryz.isAgg20
 z20:=Tryz.sizeOf20
 v20:=Tryz.zeroValue20
 t22:=Tryz.underlying29
 a22:=Tryz.isAgg29
 z22:=Tryz.sizeOf29
 v22:=Tryz.zeroValue29
def tO:Go.Shelf.Ren:=⟨fun|167=>176|240=>197|276=>217|n=>n,fun|70=>212|5=>5|75=>217|0=>0|72=>215|37=>213|4=>4|164=>257|80=>223|9=>9|n=>n,fun|n=>n⟩
theorem acE:Go.Proofs.Lays.n167 Tryz.prog tO where
 mixed:=r_
 f167:=Tryz.func176.trans (congrArg some (by kernel_rfl))
 f240:=Tryz.func197.trans (congrArg some (by kernel_rfl))
 f276:=Tryz.func217.trans (congrArg some (by kernel_rfl))
 t0:=Tryz.underlying0
 a0:=Tryz.isAgg0
 z0:=Tryz.sizeOf0
 v0:=Tryz.zeroValue0
 t4:=Tryz.underlying4
 a4:=Tryz.isAgg4
 z4:=Tryz.sizeOf4
 v4:=Tryz.zeroValue4
 t5:=Tryz.underlying5
 a5:=Tryz.isAgg5
 z5:=Tryz.sizeOf5
 v5:=Tryz.zeroValue5
 t9:=Tryz.underlying9
 a9:=Tryz.isAgg9
 z9:=Tryz.sizeOf9
 v9:=Tryz.zeroValue9
 t20:=Tryz.underlying20
 a20:=Tryz.isAgg20
 z20:=Tryz.sizeOf20
 v20:=Tryz.zeroValue20
 t37:=Tryz.underlying213
 a37:=Tryz.isAgg213
 z37:=Tryz.sizeOf213
 v37:=Tryz.zeroValue213
 t70:=Tryz.underlying212
 a70:=Tryz.isAgg212
 z70:=Tryz.sizeOf212
 v70:=Tryz.zeroValue212
 t72:=Tryz.underlying215
 a72:=Tryz.isAgg215
 z72:=Tryz.sizeOf215
 v72:=Tryz.zeroValue215
 t75:=Tryz.underlying217
 a75:=Tryz.isAgg217
 z75:=Tryz.sizeOf217
 v75:=Tryz.zeroValue217
 t164:=Tryz.underlying257
 a164:=Tryz.isAgg257
 z164:=Tryz.sizeOf257
 v164:=Tryz.zeroValue257
def tP:Go.Shelf.Ren:=⟨fun|166=>174|240=>197|276=>217|n=>n,fun|70=>212|9=>9|3=>3|75=>217|0=>0|72=>215|37=>213|4=>4|164=>257|80=>223|5=>5|n=>n,fun|n=>n⟩
theorem acF:Go.Proofs.Lays.n166 Tryz.prog tP where
 mixed:=r_
 f166:=Tryz.func174.trans (congrArg some (by kernel_rfl))
 f240:=Tryz.func197.trans (congrArg some (by kernel_rfl))
 f276:=Tryz.func217.trans (congrArg some (by kernel_rfl))
 t0:=Tryz.underlying0
 a0:=Tryz.isAgg0
 z0:=Tryz.sizeOf0
 v0:=Tryz.zeroValue0
 t3:=Tryz.underlying3
 a3:=Tryz.isAgg3
 z3:=Tryz.sizeOf3
 v3:=Tryz.zeroValue3
 t4:=Tryz.underlying4
 a4:=Tryz.isAgg4
 z4:=Tryz.sizeOf4
 v4:=Tryz.zeroValue4
 t9:=Tryz.underlying9
 a9:=Tryz.isAgg9
 z9:=Tryz.sizeOf9
 v9:=Tryz.zeroValue9
 t20:=Tryz.underlying20
 a20:=Tryz.isAgg20
 z20:=Tryz.sizeOf20
 v20:=Tryz.zeroValue20
 t37:=Tryz.underlying213
 a37:=Tryz.isAgg213
 z37:=Tryz.sizeOf213
 v37:=Tryz.zeroValue213
 t70:=Tryz.underlying212
 a70:=Tryz.isAgg212
 z70:=Tryz.sizeOf212
 v70:=Tryz.zeroValue212
 t72:=Tryz.underlying215
 a72:=Tryz.isAgg215
 z72:=Tryz.sizeOf215
 v72:=Tryz.zeroValue215
 t75:=Tryz.underlying217
 a75:=Tryz.isAgg217
 z75:=Tryz.sizeOf217
 v75:=Tryz.zeroValue217
 t164:=Tryz.underlying257
 a164:=Tryz.isAgg257
 z164:=Tryz.sizeOf257
 v164:=Tryz.zeroValue257
def tN:Go.Shelf.Ren:=⟨fun|169=>177|n=>n,fun|70=>212|9=>9|0=>0|72=>215|37=>213|127=>239|3=>3|5=>5|n=>n,fun|n=>n⟩
theorem acD:Go.Proofs.Lays.n169 Tryz.prog tN where
 mixed:=r_
 f169:=Tryz.func177.trans (congrArg some (by kernel_rfl))
 t0:=Tryz.underlying0
 a0:=Tryz.isAgg0
 z0:=Tryz.sizeOf0
 v0:=Tryz.zeroValue0
 t3:=Tryz.underlying3
 a3:=Tryz.isAgg3
 z3:=Tryz.sizeOf3
 v3:=Tryz.zeroValue3
 t9:=Tryz.underlying9
 a9:=Tryz.isAgg9
 z9:=Tryz.sizeOf9
 v9:=Tryz.zeroValue9
 t37:=Tryz.underlying213
 a37:=Tryz.isAgg213
 z37:=Tryz.sizeOf213
 v37:=Tryz.zeroValue213
 t70:=Tryz.underlying212
 a70:=Tryz.isAgg212
 z70:=Tryz.sizeOf212
 v70:=Tryz.zeroValue212
 t72:=Tryz.underlying215
 a72:=Tryz.isAgg215
 z72:=Tryz.sizeOf215
 v72:=Tryz.zeroValue215
 t127:=Tryz.underlying239
 a127:=Tryz.isAgg239
 z127:=Tryz.sizeOf239
 v127:=Tryz.zeroValue239
def zI:Go.Shelf.Ren:=⟨fun|171=>175|243=>198|246=>218|283=>228|284=>229|285=>230|286=>231|129=>236|317=>235|318=>237|319=>238|320=>239|337=>243|338=>244|n=>n,fun|3=>3|9=>9|2=>2|4=>4|171=>269|0=>0|53=>270|37=>213|5=>5|173=>273|212=>276|51=>277|20=>20|213=>278|46=>279|232=>291|233=>292|n=>n,fun|17=>0|18=>1|19=>2|n=>n⟩
theorem Vy:Go.Proofs.LaysM.n171 Tryz.prog zI where
 mixed:=r_
 f129:=Tryz.func236.trans (congrArg some (by kernel_rfl))
 f171:=Tryz.func175.trans (congrArg some (by kernel_rfl))
 f243:=Tryz.func198.trans (congrArg some (by kernel_rfl))
 f246:=Tryz.func218.trans (congrArg some (by kernel_rfl))
 f283:=Tryz.func228.trans (congrArg some (by kernel_rfl))
 f284:=Tryz.func229.trans (congrArg some (by kernel_rfl))
 f285:=Tryz.func230.trans (congrArg some (by kernel_rfl))
 f286:=Tryz.func231.trans (congrArg some (by kernel_rfl))
 f317:=Tryz.func235.trans (congrArg some (by kernel_rfl))
 f318:=Tryz.func237.trans (congrArg some (by kernel_rfl))
 f319:=Tryz.func238.trans (congrArg some (by kernel_rfl))
 f320:=Tryz.func239.trans (congrArg some (by kernel_rfl))
 f337:=Tryz.func243.trans (congrArg some (by kernel_rfl))
 f338:=Tryz.func244.trans (congrArg some (by kernel_rfl))
 t0:=Tryz.underlying0
 a0:=Tryz.isAgg0
 z0:=Tryz.sizeOf0
 v0:=Tryz.zeroValue0
 t2:=Tryz.underlying2
 a2:=Tryz.isAgg2
 z2:=Tryz.sizeOf2
 v2:=Tryz.zeroValue2
 t3:=Tryz.underlying3
 a3:=Tryz.isAgg3
 z3:=Tryz.sizeOf3
 v3:=Tryz.zeroValue3
 t4:=Tryz.underlying4
 a4:=Tryz.isAgg4
 z4:=Tryz.sizeOf4
 v4:=Tryz.zeroValue4
 t5:=Tryz.underlying5
 a5:=Tryz.isAgg5
 z5:=Tryz.sizeOf5
 v5:=Tryz.zeroValue5
 t9:=Tryz.underlying9
 a9:=Tryz.isAgg9
 z9:=Tryz.sizeOf9
 v9:=Tryz.zeroValue9
 t20:=Tryz.underlying20
 a20:=Tryz.isAgg20
 z20:=Tryz.sizeOf20
 v20:=Tryz.zeroValue20
 t37:=Tryz.underlying213
 a37:=Tryz.isAgg213
 z37:=Tryz.sizeOf213
 v37:=Tryz.zeroValue213
 t46:=Tryz.underlying279
 a46:=Tryz.isAgg279
 z46:=Tryz.sizeOf279
 v46:=Tryz.zeroValue279
 t51:=Tryz.underlying277
 a51:=Tryz.isAgg277
 z51:=Tryz.sizeOf277
 v51:=Tryz.zeroValue277
 t53:=Tryz.underlying270
 a53:=Tryz.isAgg270
 z53:=Tryz.sizeOf270
 v53:=Tryz.zeroValue270
 t171:=Tryz.underlying269
 a171:=Tryz.isAgg269
 z171:=Tryz.sizeOf269
 v171:=Tryz.zeroValue269
 t173:=Tryz.underlying273
 a173:=Tryz.isAgg273
 z173:=Tryz.sizeOf273
 v173:=Tryz.zeroValue273
 t212:=Tryz.underlying276
 a212:=Tryz.isAgg276
 z212:=Tryz.sizeOf276
 v212:=Tryz.zeroValue276
 t213:=Tryz.underlying278
 a213:=Tryz.isAgg278
 z213:=Tryz.sizeOf278
 t232:=Tryz.underlying291
 a232:=Tryz.isAgg291
 z232:=Tryz.sizeOf291
 v232:=Tryz.zeroValue291
 t233:=Tryz.underlying292
 a233:=Tryz.isAgg292
 z233:=Tryz.sizeOf292
 v233:=Tryz.zeroValue292
 g17:=r_
 g18:=r_
 g19:=r_
 i0:=r_
 i2:=r_
 i3:=r_
 i4:=r_
 i5:=r_
 i9:=r_
 i20:=r_
 i37:=r_
 i46:=r_
 i51:=r_
 i53:=r_
 i171:=r_
 i173:=r_
 i212:=r_
 i232:=r_
 i233:=r_
 m17:=r_
 m18:=r_
 m19:=r_
theorem aiC:Builder.Extra Tryz.prog tO where
 sizeBuilder:=r_
 liesBuilder:=r_
 t5:=Tryz.underlying5
 a5:=Tryz.isAgg5
 z5:=Tryz.sizeOf5
 v5:=Tryz.zeroValue5
 infoByte:=r_
 cellsByte:=r_
 sizeByte:=r_
 neB5:=by decide
theorem aiD:Builder.Extra Tryz.prog tP where
 sizeBuilder:=r_
 liesBuilder:=r_
 t5:=Tryz.underlying5
 a5:=Tryz.isAgg5
 z5:=Tryz.sizeOf5
 v5:=Tryz.zeroValue5
 infoByte:=r_
 cellsByte:=r_
 sizeByte:=r_
 neB5:=by decide
theorem aiB:Builder.Extra Tryz.prog tN where
 sizeBuilder:=r_
 liesBuilder:=r_
 t5:=Tryz.underlying5
 a5:=Tryz.isAgg5
 z5:=Tryz.sizeOf5
 v5:=Tryz.zeroValue5
 infoByte:=r_
 cellsByte:=r_
 sizeByte:=r_
 neB5:=by decide
theorem adT (B b:Nat)(bs:List Value)(c:Int)(w:World)(h:Lib.IsBuilderF 215 5 B b bs w)(hlen:bs.length+1<=140737488355328)(hBw:B<=w.heap.size):
  Calls Tryz.prog 176 #[.pointer (some ⟨b,0,none⟩),.int .u8 c] w fun e w'=>e=.returned .nilIface/\(Lib.BuilderAtF 215 5 B b (.pointer (some ⟨b,0,none⟩)) (bs++[.int .u8 c]) w'/\Below B w w'/\Lib.OthersKept 5 (some b) w w'):=
 Any.Builder_WriteByte_k acE aiC B b bs c w h hlen hBw
theorem IC (B b:Nat)(bs:List Value)(s:ByteArray)(w:World)(h:Lib.IsBuilderF 215 5 B b bs w)(hlen:bs.length+s.size<=140737488355328)(hBw:B<=w.heap.size):
  Calls Tryz.prog 174 #[.pointer (some ⟨b,0,none⟩),.string s] w fun e w'=>e=.returned (.tuple #[.int .i64 s.size,.nilIface])/\(Lib.BuilderAtF 215 5 B b (.pointer (some ⟨b,0,none⟩)) (bs++Lib.strCells s) w'/\Below B w w'/\Lib.OthersKept 5 (some b) w w'):=
 Any.Builder_WriteString_k acF aiD B b bs s w h hlen hBw
theorem QF (B b:Nat)(l:List UInt8)(w:World)(h:Lib.IsBuilderF 215 5 B b (Lib.byteCells l) w)(hBw:B<=w.heap.size):
  Calls Tryz.prog 177 #[.pointer (some ⟨b,0,none⟩)] w fun e w'=>e=.returned (.string ⟨l.toArray⟩)/\(Lib.IsBuilderF 215 5 B b (Lib.byteCells l) w'/\Below B w w'/\Lib.OthersKept 5 (some b) w w'):=
 Any.Builder_String_any_k acD aiB B b l w h hBw
theorem acM (n:Int)(h0 : -9223372036854775808<=n)(h1:n<=9223372036854775807)(w:World)(htab:Lib.TabIs Tryz.prog w "internal/strconv.uint64pow10" .u64 Lib.pow10Tab) :
  Calls Tryz.prog 175 #[.int .i64 n] w fun e w'=>e=.returned (.string ⟨(Lib.itoa n).toArray⟩)/\∃ k os,w'=Sort.grow (w.drewN k) os:=
 Any.strconv_Itoa Vy n h0 h1 w htab
theorem GL (w:World)(q:Nat)(os:Array Obj):Below w.heap.size w (Sort.grow (w.drewN q) os):=
 ⟨rfl,rfl,rfl,by show w.heap.size<=(w.heap++os).size;simp,fun k hk=>by show(w.heap++os)[k]?=_;rw[Array.getElem?_append_left hk]⟩
theorem Fo {B b:Nat}{bs:List Value}{W W':World}(h:Lib.IsBuilderF 215 5 B b bs W)(hb:Below W.heap.size W W'):Lib.IsBuilderF 215 5 B b bs W':=by
 have k:∀ p,Lib.BuilderAtF 215 5 B b p bs W->Lib.BuilderAtF 215 5 B b p bs W':=fun p h=>by
  have hlt:=h.lt;obtain⟨hB,v,hv,hown,hne⟩:=h;exact⟨hB,v,(hb.block b hlt).trans hv,hown.kept (row:=none) ⟨hb.os,hb.tape,hb.output,hb.size,fun k hk _=>hb.block k hk⟩ (Classical.em _),hne⟩
 exact h.elim (fun x=>.inl (k _ x)) (fun x=>.inr (k _ x))
theorem Cq {b:Nat}{a w w':World}(h:Lib.OthersKept 5 (some b) a w)(hb:Below w.heap.size w w'):Lib.OthersKept 5 (some b) a w':=h.below hb
set_option maxHeartbeats 4000000 in
theorem RP (B b:Nat)(l:List UInt8)(n:Int)(w:World)(h0 : -9223372036854775808<=n)(h1:n<=9223372036854775807)(hI:Lib.IsBuilderF 215 5 B b (Lib.byteCells l) w)(hlen:l.length+100<=140737488355328)(hB:B<=w.heap.size)
  (htab:Lib.TabIs Tryz.prog w "internal/strconv.uint64pow10" .u64 Lib.pow10Tab) (hd:(Lib.itoa n).length<=30) :
  Calls Tryz.prog 173 #[.int .i64 n,.pointer (some ⟨b,0,none⟩)] w fun e w'=>e=.returned (.tuple #[])/\Lib.IsBuilderF 215 5 B b (Lib.byteCells (l++Lib.itoa n++[32])) w'/\Below B w w'/\Lib.OthersKept 5 (some b) w w':=by
 go_enter Tryz.func173,Tryz.ntmps173
 go_wp2_with (go_at_call 175;refine(acM n h0 h1 _ htab).mono ?_)
 rintro e w1 ⟨rfl,k,os,rfl⟩;have b1:=GL w k os;have hI1:=Fo hI b1;have o1:=Cq (Lib.OthersKept.refl 5 (some b) w) b1;have hB1:B<=(Sort.grow (w.drewN k) os).heap.size:=Nat.le_trans hB b1.size;generalize Sort.grow (w.drewN k) os=W1 at *;have hs:(⟨(Lib.itoa n).toArray⟩:ByteArray).size=(Lib.itoa n).length:=by simp[ByteArray.size]
 go_wp2_with (go_at_call 174;refine(IC B b _ _ _ hI1 (by rw[Lib.byteCells_length,hs];omega) hB1).mono ?_)
 rintro e w2 ⟨rfl,h2,b2,o2⟩;have hB2:B<=w2.heap.size:=Nat.le_trans hB1 b2.size;have hb:Lib.byteCells l++Lib.strCells (⟨(Lib.itoa n).toArray⟩:ByteArray)=Lib.byteCells (l++Lib.itoa n):=by simp[Lib.strCells,Lib.byteCells]
 rw[hb]at h2;have hl2:(Lib.byteCells (l++Lib.itoa n)).length+1<=140737488355328:=by rw[Lib.byteCells_length,List.length_append];omega
 go_wp2_with (go_at_call 176;refine(adT B b _ 32 _ (.inr h2) hl2 hB2).mono ?_)
 rintro e w3 ⟨rfl,h3,b3,o3⟩
 go_wp2
 go_end0
 refine⟨rfl,?_,((b1.mono hB).trans b2).trans b3,(o1.trans o2).trans o3⟩;have hz:Lib.byteCells (l++Lib.itoa n)++[Value.int .u8 32]=Lib.byteCells (l++Lib.itoa n++[32]):=by simp[Lib.byteCells]
 rw[hz]at h3;exact .inr h3
end Go.Proofs.YtocdlbblemjabaaGreatDoor
namespace Go.Proofs.YtocdlbblemjabaaGreatDoor
open Go.Shelf Go.Proofs Go.RowKit Go.AG Go.AG.MK
structure RVs (w:World)(v:Value)(l:List LV):Prop where
 at_:∃ base cap,v=.slice base l.length cap/\∀ (j:Nat) x,l[j]?=some x->∃ b off,base=some ⟨b,off,none⟩/\b<w.heap.size/\w.cell? ⟨b,off+2*j,none⟩=some (.int .i64 x.idx)/\w.cell? ⟨b,off+2*j+1,none⟩=some (.int .i64 x.plus)
structure RLs (w:World)(v:Value)(l:List LL):Prop where
 at_:∃ base cap,v=.slice base l.length cap/\∀ (j:Nat) x,l[j]?=some x->∃ b off u,base=some ⟨b,off,none⟩/\b<w.heap.size/\w.cell? ⟨b,off+2*j,none⟩=some (.int .i64 x.c)/\w.cell? ⟨b,off+2*j+1,none⟩=some u/\RVs w u x.vars
structure RKs (w:World)(v:Value)(l:List Int):Prop where
 at_:∃ base cap,v=.slice base l.length cap/\∀ (j:Nat) x,l[j]?=some x->∃ b off,base=some ⟨b,off,none⟩/\b<w.heap.size/\w.cell? ⟨b,off+j,none⟩=some (.int .i64 x)
def inI (n:Int):Prop:=-9223372036854775808<=n/\n<=9223372036854775807
def KW (w:World)(n:NV)(ls ks:Value):World:=(w.alloc (.cells #[.int .i64 n.kind,.int .i64 n.idx,.string n.name,ls,ks] 94)).alloc (.cells #[.pointer none,.slice none 0 0] 215)
theorem adB (w:World)(n:NV)(ls ks:Value):(KW w n ls ks).heap.size=w.heap.size+2:=by simp[KW]
structure fj (w:World)(n:NV)(ls ks:Value)(acc rest:List UInt8)(W:World):Prop where
 I:Lib.IsBuilderF 215 5 (w.heap.size+1) (w.heap.size+1) (Lib.byteCells acc) W
 be:Below (w.heap.size+1) (KW w n ls ks) W
 eq:acc++rest=cQ n
 len:(cQ n).length<=1000000000
 tab:Lib.TabIs Tryz.prog w "internal/strconv.uint64pow10" .u64 Lib.pow10Tab
section
variable {w W W':World}{n:NV}{ls ks:Value}{acc rest:List UInt8}
theorem fj.start (len:(cQ n).length<=1000000000)(tab:Lib.TabIs Tryz.prog w "internal/strconv.uint64pow10" .u64 Lib.pow10Tab):fj w n ls ks [] (cQ n) (KW w n ls ks):=
 ⟨by
  have h:=Lib.IsBuilderF.of (Lib.fresh_isBuilder 215 5 (w.alloc (.cells #[.int .i64 n.kind,.int .i64 n.idx,.string n.name,ls,ks] 94)));have e:(w.alloc (.cells #[.int .i64 n.kind,.int .i64 n.idx,.string n.name,ls,ks] 94)).heap.size=w.heap.size+1:=by simp
  rw[e]at h;exact h,Below.refl _ _,rfl,len,tab⟩
theorem fj.size (s:fj w n ls ks acc rest W):w.heap.size+1<=W.heap.size:=by have:=s.be.size;rw[adB]at this;omega
theorem fj.blk (s:fj w n ls ks acc rest W):W.heap[w.heap.size]?=some (.cells #[.int .i64 n.kind,.int .i64 n.idx,.string n.name,ls,ks] 94):=by
 rw[s.be.block _ (by omega)];show(World.alloc (World.alloc w _) _).heap[w.heap.size]?=_;rw[Below.heap_alloc _ _ _ (by simp),heap_alloc_new]
theorem fj.old (s:fj w n ls ks acc rest W){p:Addr}(h:p.block<w.heap.size):W.cell? p=w.cell? p:=by
 rw[s.be.cell o_];show World.cell? (World.alloc (World.alloc w _) _) p=_;rw[World.cell?_of_block (w:=World.alloc w _) (Below.heap_alloc _ _ _ (by simp;omega)),World.cell?_of_block (w:=w) (Below.heap_alloc _ _ _ h)]
theorem fj.up (s:fj w n ls ks acc rest W)(b:Below W.heap.size W W'):fj w n ls ks acc rest W':=
 ⟨Fo s.I b,s.be.trans (b.mono s.size),s.eq,s.len,s.tab⟩
theorem fj.tabW (s:fj w n ls ks acc rest W):Lib.TabIs Tryz.prog W "internal/strconv.uint64pow10" .u64 Lib.pow10Tab:=by
 refine HH _ _ s.tab fun b hb=>?_
 rw[s.be.block b o_];show(World.alloc (World.alloc w _) _).heap[b]?=_;rw[Below.heap_alloc _ _ _ (by simp;omega),Below.heap_alloc _ _ _ hb]
theorem fj.lens (s:fj w n ls ks acc rest W):acc.length+rest.length<=1000000000:=by
 have:=congrArg List.length s.eq;rw[List.length_append]at this;have:=s.len;omega
theorem fj.number {m:Int} (s:fj w n ls ks acc (Lib.itoa m++32::rest) W) (hm:inI m) :
  Calls Tryz.prog 173 #[.int .i64 m,.pointer (some ⟨w.heap.size+1,0,none⟩)] W fun e w'=>e = .returned (.tuple #[])/\fj w n ls ks (acc++Lib.itoa m++[32]) rest w'/\Lib.OthersKept 5 (some (w.heap.size+1)) W w':=by
 have hl:=Lib.itoa_length_le m hm.1 hm.2
 have h1:=s.lens
 refine(RP (w.heap.size+1) (w.heap.size+1) acc m W hm.1 hm.2 s.I (by omega) s.size s.tabW (by omega)).mono ?_
 rintro e w' ⟨rfl,h2,h3,h4⟩
 exact⟨rfl,⟨h2,s.be.trans h3,by rw[List.append_assoc,List.append_assoc]; exact s.eq,s.len,s.tab⟩,h4⟩
theorem fj.byte {c:UInt8}{z:Int}(s:fj w n ls ks acc (c::rest) W)(hz:z=c.toNat):
  Calls Tryz.prog 176 #[.pointer (some ⟨w.heap.size+1,0,none⟩),.int .u8 z] W fun e w'=>e=.returned .nilIface/\fj w n ls ks (acc++[c]) rest w'/\Lib.OthersKept 5 (some (w.heap.size+1)) W w':=by
 have h1:=s.lens;refine(adT (w.heap.size+1) (w.heap.size+1) (Lib.byteCells acc) z W s.I (by rw[Lib.byteCells_length];omega) s.size).mono ?_;rintro e w' ⟨rfl,h2,h3,h4⟩;have hb:Lib.byteCells acc++[.int .u8 z]=Lib.byteCells (acc++[c]):=by subst hz;simp[Lib.byteCells]
 rw[hb]at h2;exact⟨rfl,⟨.inr h2,s.be.trans h3,by rw[List.append_assoc];exact s.eq,s.len,s.tab⟩,h4⟩
theorem fj.str {t:ByteArray}(s:fj w n ls ks acc (t.data.toList++rest) W):
  Calls Tryz.prog 174 #[.pointer (some ⟨w.heap.size+1,0,none⟩),.string t] W fun e w'=>e=.returned (.tuple #[.int .i64 t.size,.nilIface])/\fj w n ls ks (acc++t.data.toList) rest w'/\Lib.OthersKept 5 (some (w.heap.size+1)) W w':=by
 have h1:=s.lens;have hs:t.size=t.data.toList.length:=by rw[Array.length_toList];rfl
 rw[List.length_append]at h1;refine(IC (w.heap.size+1) (w.heap.size+1) (Lib.byteCells acc) t W s.I (by rw[Lib.byteCells_length];omega) s.size).mono ?_;rintro e w' ⟨rfl,h2,h3,h4⟩;rw[Lib.strCells_eq,<- Lib.byteCells_append]at h2;exact⟨rfl,⟨.inr h2,s.be.trans h3,by rw[List.append_assoc];exact s.eq,s.len,s.tab⟩,h4⟩
theorem fj.string (s:fj w n ls ks acc [] W):
  Calls Tryz.prog 177 #[.pointer (some ⟨w.heap.size+1,0,none⟩)] W fun e w'=>e=.returned (.string ⟨(cQ n).toArray⟩)/\Below w.heap.size w w':=by
 have he:acc=cQ n:=by rw[<- s.eq];simp
 refine(QF (w.heap.size+1) (w.heap.size+1) acc W s.I s.size).mono ?_;rintro e w' ⟨rfl,h2,h3,h4⟩;subst he;have b0:Below w.heap.size w (KW w n ls ks):=((Below.refl _ w).alloc (e_ _) _).alloc (by simp) _;exact⟨rfl,b0.trans ((s.be.trans h3).mono o_)⟩
end
structure InR (n:NV):Prop where
 k:inI n.kind
 i:inI n.idx
 l:∀ x∈n.L,inI x.c/\∀ v∈x.vars,inI v.idx/\inI v.plus
 d:∀ x∈n.K,inI x
 nl:n.L.length<=1000000
 nv:∀ x∈n.L,x.vars.length<=1000000
 nk:n.K.length<=1000000
theorem wQ {α:Type}{l:List α}{p:Nat}{x:α}(h:l[p]?=some x):l.drop p=x::l.drop (p+1):=by
 obtain⟨h1,h2⟩:=E_.1 h;rw[List.drop_eq_getElem_cons h1,h2]
set_option maxHeartbeats 8000000 in
theorem VB (n:NV)(ls ks:Value)(w:World)(hl:RLs w ls n.L)(hk:RKs w ks n.K)(hr:InR n)(len:(cQ n).length<=1000000000)(htab:Lib.TabIs Tryz.prog w "internal/strconv.uint64pow10" .u64 Lib.pow10Tab) :
  Calls Tryz.prog 138 #[.agg #[.int .i64 n.kind,.int .i64 n.idx,.string n.name,ls,ks]] w fun e w'=>e=.returned (.string ⟨(cQ n).toArray⟩)/\Below w.heap.size w w':=by
 obtain⟨lb,lc,rfl,hls⟩:=hl.at_;obtain⟨kb,kc,rfl,hks⟩:=hk.at_;have s0:=fj.start (ls:=.slice lb n.L.length lc) (ks:=.slice kb n.K.length kc) len htab;have s0:fj w n (.slice lb n.L.length lc) (.slice kb n.K.length kc) [] (Lib.itoa n.kind++32::(Lib.itoa n.idx++32::(n.name.data.toList++(n.L.flatMap qH++124::n.K.flatMap fun k=>Lib.itoa k++[32])))) (KW w n (.slice lb n.L.length lc) (.slice kb n.K.length kc)):=s0;have bl:=hr.nl;have bk:=hr.nk
 go_enter Tryz.func138,Tryz.ntmps138
 go_wp2_with (go_at_call 173;refine(s0.number hr.k).mono ?_)
 rintro e W1 ⟨rfl,s1,-⟩;have g1:W1.cell? ⟨w.heap.size,1,none⟩=some (.int .i64 n.idx):=by rw[Lib.cell_of_heap s1.blk];rfl
 go_wp2_with (go_at_call 173;refine(s1.number hr.i).mono ?_)
 rintro e W2 ⟨rfl,s2,-⟩;have g2:W2.cell? ⟨w.heap.size,2,none⟩=some (.string n.name):=by rw[Lib.cell_of_heap s2.blk];rfl
 go_wp2_with (go_at_call 174;refine(s2.str).mono ?_)
 rintro e W3 ⟨rfl,s3,-⟩;have g3:W3.cell? ⟨w.heap.size,3,none⟩=some (.slice lb n.L.length lc):=by rw[Lib.cell_of_heap s3.blk];rfl
 clear g1 g2 s0 s1 s2
 go_wp2
 go_loopw [26] (fun i wr=>∃ (p:Nat) (acc:List UInt8),p<=n.L.length/\i=.int .i64 p/\fj w n (.slice lb n.L.length lc) (.slice kb n.K.length kc) acc ((n.L.drop p).flatMap qH++124::n.K.flatMap fun k=>Lib.itoa k++[32]) wr)
  (fun i _=>n.L.length-(intOf i).toNat)
 case atStart=>exact⟨0,_,Nat.zero_le _,rfl,s3⟩
 case round=>
  obtain⟨p,acc,hp,rfl,st⟩:=hrel;by_cases hlt:p<n.L.length
  ·obtain⟨x,hx⟩:∃ x,n.L[p]?=some x:=⟨_,List.getElem?_eq_getElem hlt⟩
   obtain⟨b,off,u,rfl,hb,c0,c1,rv⟩:=hls p x hx;obtain⟨vb,vc,rfl,hvs⟩:=rv.at_;have e0:wr.cell? ⟨b,off+p*2,none⟩=some (.int .i64 x.c):=by rw[st.old hb,Nat.mul_comm];exact c0
   have e1:wr.cell? ⟨b,off+p*2+1,none⟩=some (.slice vb x.vars.length vc):=by rw[st.old hb,Nat.mul_comm];exact c1
   have hd:((n.L.drop p).flatMap qH++124::n.K.flatMap fun k=>Lib.itoa k++[32])=91::(Lib.itoa x.c++32::((x.vars.flatMap fun v=>Lib.itoa v.idx++32::(Lib.itoa v.plus++[32]))++((n.L.drop (p+1)).flatMap qH++124::n.K.flatMap fun k=>Lib.itoa k++[32]))):=by
    rw[wQ hx,List.flatMap_cons,qH];simp
   rw[hd]at st;obtain⟨hxc,hxv⟩:=hr.l x (List.mem_of_getElem? hx);have bv:=hr.nv x (List.mem_of_getElem? hx);have hnb:wr.heap.size≠w.heap.size+1:=by
    have:=st.I;have:w.heap.size+1<wr.heap.size:=by rcases this with h|h<;>exact h.lt
    omega
   have hal:(wr.alloc (Obj.cells #[Value.int IntKind.i64 x.c,Value.slice vb x.vars.length vc] 113)).heap[wr.heap.size]?=some (Obj.cells #[Value.int IntKind.i64 x.c,Value.slice vb x.vars.length vc] 113):=heap_alloc_new _ _;have stA:=st.up ((Below.refl wr.heap.size wr).alloc (Nat.le_refl _) (Obj.cells #[Value.int IntKind.i64 x.c,Value.slice vb x.vars.length vc] 113))
   go_wp2_with (go_at_call 176;refine(stA.byte rfl).mono ?_)
   rintro e W4 ⟨rfl,st4,o4⟩;have k4:=o4 _ _ hal (by simpa using hnb) (by intro c fz h;injection h with _ h _;exact absurd h (by decide));have d4:W4.cell? ⟨wr.heap.size,0,none⟩=some (.int .i64 x.c):=by rw[Lib.cell_of_heap k4];rfl
   go_wp2_with (go_at_call 173;refine(st4.number hxc).mono ?_)
   rintro e W5 ⟨rfl,st5,o5⟩;have k5:=o5 _ _ k4 (by simpa using hnb) (by intro c fz h;injection h with _ h _;exact absurd h (by decide));have d5:W5.cell? ⟨wr.heap.size,1,none⟩=some (.slice vb x.vars.length vc):=by rw[Lib.cell_of_heap k5];rfl
   clear d4 e0 e1 k4 k5 o4 o5 stA hal st hd
   go_wp2
   go_loopw [38] (fun i wr=>∃ (q:Nat) (acc:List UInt8),q<=x.vars.length/\i=.int .i64 q/\fj w n (.slice (some ⟨b,off,none⟩) n.L.length lc) (.slice kb n.K.length kc) acc (((x.vars.drop q).flatMap fun v=>Lib.itoa v.idx++32::(Lib.itoa v.plus++[32]))++((n.L.drop (p+1)).flatMap qH++124::n.K.flatMap fun k=>Lib.itoa k++[32])) wr)
    (fun i _=>x.vars.length-(intOf i).toNat)
   case atStart=>exact⟨0,_,Nat.zero_le _,rfl,st5⟩
   case round=>
    clear d5 st5;obtain⟨q,acc2,hq,rfl,sq⟩:=hrel;by_cases hltq:q<x.vars.length
    ·obtain⟨y,hy⟩:∃ y,x.vars[q]?=some y:=⟨_,List.getElem?_eq_getElem hltq⟩
     obtain⟨b2,off2,rfl,hb2,c2,c3⟩:=hvs q y hy;have f0:wr.cell? ⟨b2,off2+q*2,none⟩=some (.int .i64 y.idx):=by rw[sq.old hb2,Nat.mul_comm];exact c2
     have f1:wr.cell? ⟨b2,off2+q*2+1,none⟩=some (.int .i64 y.plus):=by rw[sq.old hb2,Nat.mul_comm];exact c3
     have hdq:((x.vars.drop q).flatMap fun v=>Lib.itoa v.idx++32::(Lib.itoa v.plus++[32]))++((n.L.drop (p+1)).flatMap qH++124::n.K.flatMap fun k=>Lib.itoa k++[32])=Lib.itoa y.idx++32::(Lib.itoa y.plus++32::(((x.vars.drop (q+1)).flatMap fun v=>Lib.itoa v.idx++32::(Lib.itoa v.plus++[32]))++((n.L.drop (p+1)).flatMap qH++124::n.K.flatMap fun k=>Lib.itoa k++[32]))):=by
      rw[wQ hy,List.flatMap_cons];simp
     rw[hdq]at sq;obtain⟨hy1,hy2⟩:=hxv y (List.mem_of_getElem? hy);have hnq:wr.heap.size≠w.heap.size+1:=by
      have:=sq.I;have:w.heap.size+1<wr.heap.size:=by rcases this with h|h<;>exact h.lt
      omega
     have halq:(wr.alloc (Obj.cells #[Value.int IntKind.i64 y.idx,Value.int IntKind.i64 y.plus] 160)).heap[wr.heap.size]?=some (Obj.cells #[Value.int IntKind.i64 y.idx,Value.int IntKind.i64 y.plus] 160):=heap_alloc_new _ _;have sqA:=sq.up ((Below.refl wr.heap.size wr).alloc (Nat.le_refl _) (Obj.cells #[Value.int IntKind.i64 y.idx,Value.int IntKind.i64 y.plus] 160));clear hdq
     go_wp2_with (go_at_call 173;refine(sqA.number hy1).mono ?_)
     rintro e W6 ⟨rfl,st6,o6⟩;have k6:=o6 _ _ halq (by simpa using hnq) (by intro c fz h;injection h with _ h _;exact absurd h (by decide));have d6:W6.cell? ⟨wr.heap.size,1,none⟩=some (.int .i64 y.plus):=by rw[Lib.cell_of_heap k6];rfl
     go_wp2_with (go_at_call 173;refine(st6.number hy2).mono ?_)
     rintro e W7 ⟨rfl,st7,o7⟩;clear d6 k6 o6 o7 halq sqA sq f0 f1 st6
     go_wp2
     go_roundw
     case rel=>exact⟨q+1,_,by omega,by go_num,st7⟩
     case measure=>simp[intOf];omega
    ·have hqe:q=x.vars.length:=by omega
     subst hqe;rw[List.drop_length,List.flatMap_nil,List.nil_append]at sq
     go_wp2
     go_roundw
     case rel=>exact⟨p+1,_,by omega,by go_num,sq⟩
     case measure=>simp[intOf];omega
  ·have hpe:p=n.L.length:=by omega
   subst hpe;rw[List.drop_length,List.flatMap_nil,List.nil_append]at st
   go_wp2_with (go_at_call 176;refine(st.byte rfl).mono ?_)
   rintro e W4 ⟨rfl,st4,-⟩;have d4:W4.cell? ⟨w.heap.size,4,none⟩=some (.slice kb n.K.length kc):=by rw[Lib.cell_of_heap st4.blk];rfl
   go_wp2
   go_loopw [56] (fun i wr=>∃ (q:Nat) (acc:List UInt8),q<=n.K.length/\i=.int .i64 q/\fj w n (.slice lb n.L.length lc) (.slice kb n.K.length kc) acc ((n.K.drop q).flatMap fun k=>Lib.itoa k++[32]) wr)
    (fun i _=>n.K.length-(intOf i).toNat)
   case atStart=>exact⟨0,_,Nat.zero_le _,rfl,st4⟩
   case round=>
    clear d4 st4;obtain⟨q,acc2,hq,rfl,sq⟩:=hrel;by_cases hltq:q<n.K.length
    ·obtain⟨y,hy⟩:∃ y,n.K[q]?=some y:=⟨_,List.getElem?_eq_getElem hltq⟩
     obtain⟨b2,off2,rfl,hb2,c2⟩:=hks q y hy;have f0:wr.cell? ⟨b2,off2+q,none⟩=some (.int .i64 y):=by rw[sq.old hb2];exact c2
     have hdq:((n.K.drop q).flatMap fun k=>Lib.itoa k++[32])=Lib.itoa y++32::((n.K.drop (q+1)).flatMap fun k=>Lib.itoa k++[32]):=by
      rw[wQ hy,List.flatMap_cons];simp
     rw[hdq]at sq;clear hdq
     go_wp2_with (go_at_call 173;refine(sq.number (hr.d y (List.mem_of_getElem? hy))).mono ?_)
     rintro e W6 ⟨rfl,st6,-⟩;clear sq f0
     go_wp2
     go_roundw
     case rel=>exact⟨q+1,_,by omega,by go_num,st6⟩
     case measure=>simp[intOf];omega
    ·have hqe:q=n.K.length:=by omega
     subst hqe;rw[List.drop_length,List.flatMap_nil]at sq
     go_wp2_with (go_at_call 177;refine(sq.string).mono ?_)
     rintro e W8 ⟨rfl,b8⟩
     go_wp2
     go_ret
     exact⟨rfl,b8⟩
