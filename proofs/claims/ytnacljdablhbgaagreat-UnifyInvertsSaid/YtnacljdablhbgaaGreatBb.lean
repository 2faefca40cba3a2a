/- UnifyInverts: slices.Sort of the library at []int: the contract of the shelf's, over this program (written by a tool of the kit; no condition). -/
import Derived.Shelf.Sort.Plain
import Derived.Test.YtnacljdablhbgaaGreatProg
import Derived.KernelRfl
namespace Go.Proofs.YtnacljdablhbgaaGreat
open Go.Shelf Go.Proofs

def lays189_ren : Go.Shelf.Ren := ⟨fun | 189 => 82 | 125 => 126 | 257 => 125 | 128 => 188 | 129 => 189 | 294 => 179 | 295 => 180 | 296 => 181 | 297 => 182 | 298 => 183 | 299 => 184 | 216 => 185 | 300 => 186 | 301 => 187 | 328 => 231 | 329 => 232 | 330 => 233 | 331 => 234 | 332 => 235 | 215 => 236 | 343 => 277 | n => n, fun | 28 => 22 | 3 => 3 | 46 => 197 | 0 => 0 | 51 => 245 | 53 => 247 | 4 => 4 | 183 => 237 | 182 => 236 | 131 => 242 | 5 => 5 | 9 => 9 | 218 => 279 | 222 => 283 | 228 => 322 | 229 => 90 | n => n, fun | n => n⟩
theorem lays189 : Go.Proofs.Lays.n189 Tryz.prog lays189_ren where
  mixed := by kernel_rfl
  f125 := Tryz.func126.trans (congrArg some (by kernel_rfl))
  f128 := Tryz.func188.trans (congrArg some (by kernel_rfl))
  f129 := Tryz.func189.trans (congrArg some (by kernel_rfl))
  f189 := Tryz.func82.trans (congrArg some (by kernel_rfl))
  f215 := Tryz.func236.trans (congrArg some (by kernel_rfl))
  f216 := Tryz.func185.trans (congrArg some (by kernel_rfl))
  f257 := Tryz.func125.trans (congrArg some (by kernel_rfl))
  f294 := Tryz.func179.trans (congrArg some (by kernel_rfl))
  f295 := Tryz.func180.trans (congrArg some (by kernel_rfl))
  f296 := Tryz.func181.trans (congrArg some (by kernel_rfl))
  f297 := Tryz.func182.trans (congrArg some (by kernel_rfl))
  f298 := Tryz.func183.trans (congrArg some (by kernel_rfl))
  f299 := Tryz.func184.trans (congrArg some (by kernel_rfl))
  f300 := Tryz.func186.trans (congrArg some (by kernel_rfl))
  f301 := Tryz.func187.trans (congrArg some (by kernel_rfl))
  f328 := Tryz.func231.trans (congrArg some (by kernel_rfl))
  f329 := Tryz.func232.trans (congrArg some (by kernel_rfl))
  f330 := Tryz.func233.trans (congrArg some (by kernel_rfl))
  f331 := Tryz.func234.trans (congrArg some (by kernel_rfl))
  f332 := Tryz.func235.trans (congrArg some (by kernel_rfl))
  f343 := Tryz.func277.trans (congrArg some (by kernel_rfl))
  t0 := Tryz.underlying0
  a0 := Tryz.isAgg0
  z0 := Tryz.sizeOf0
  v0 := Tryz.zeroValue0
  t3 := Tryz.underlying3
  a3 := Tryz.isAgg3
  z3 := Tryz.sizeOf3
  v3 := Tryz.zeroValue3
  t4 := Tryz.underlying4
  a4 := Tryz.isAgg4
  z4 := Tryz.sizeOf4
  v4 := Tryz.zeroValue4
  t5 := Tryz.underlying5
  a5 := Tryz.isAgg5
  z5 := Tryz.sizeOf5
  v5 := Tryz.zeroValue5
  t9 := Tryz.underlying9
  a9 := Tryz.isAgg9
  z9 := Tryz.sizeOf9
  v9 := Tryz.zeroValue9
  t28 := Tryz.underlying22
  a28 := Tryz.isAgg22
  z28 := Tryz.sizeOf22
  v28 := Tryz.zeroValue22
  t46 := Tryz.underlying197
  a46 := Tryz.isAgg197
  z46 := Tryz.sizeOf197
  v46 := Tryz.zeroValue197
  t51 := Tryz.underlying245
  a51 := Tryz.isAgg245
  z51 := Tryz.sizeOf245
  v51 := Tryz.zeroValue245
  t53 := Tryz.underlying247
  a53 := Tryz.isAgg247
  z53 := Tryz.sizeOf247
  v53 := Tryz.zeroValue247
  t131 := Tryz.underlying242
  a131 := Tryz.isAgg242
  z131 := Tryz.sizeOf242
  v131 := Tryz.zeroValue242
  t182 := Tryz.underlying236
  a182 := Tryz.isAgg236
  z182 := Tryz.sizeOf236
  v182 := Tryz.zeroValue236
  t183 := Tryz.underlying237
  a183 := Tryz.isAgg237
  z183 := Tryz.sizeOf237
  v183 := Tryz.zeroValue237
  t218 := Tryz.underlying279
  a218 := Tryz.isAgg279
  z218 := Tryz.sizeOf279
  v218 := Tryz.zeroValue279
  t222 := Tryz.underlying283
  a222 := Tryz.isAgg283
  z222 := Tryz.sizeOf283
  v222 := Tryz.zeroValue283
  t228 := Tryz.underlying322
  a228 := Tryz.isAgg322
  z228 := Tryz.sizeOf322
  v228 := Tryz.zeroValue322
  t229 := Tryz.underlying90
  a229 := Tryz.isAgg90
  z229 := Tryz.sizeOf90
  v229 := Tryz.zeroValue90

open Go.Sort Go.RowKit in
theorem sort82 (blk off cap : Nat) (zs : List Int) (w : World) (hH : Holds (Value.int .i64) w blk off zs.toArray) (hblk : blk < w.heap.size) (hsz : zs.length < 4611686018427387904) :
    Calls Tryz.prog 82 #[.slice (some ⟨blk, off, none⟩) zs.length cap] w fun e w' =>
      e = .returned (.tuple #[]) ∧ ∃ n os, w' = grow (putRow (Value.int .i64) (Sort.ahead w n) blk off (zs.mergeSort fun x y => decide (x ≤ y)).toArray) os := Any.slices_Sort_int lays189 blk off cap zs w hH hblk hsz

end Go.Proofs.YtnacljdablhbgaaGreat
