import Derived.Shelf.Sort.Plain
import Derived.Shelf.Slices.CompactI
import Derived.Shelf.Slices.In.SortNone
import Derived.Test.YtcgdfjpeboiioaaGreatProg
namespace Go.Proofs
open Go.Shelf
def Tryz.lays189_ren : Go.Shelf.Ren := ⟨fun | 189 => 186 | 125 => 206 | 257 => 205 | 128 => 234 | 129 => 235 | 294 => 225 | 295 => 226 | 296 => 227 | 297 => 228 | 298 => 229 | 299 => 230 | 216 => 231 | 300 => 232 | 301 => 233 | 328 => 238 | 329 => 239 | 330 => 240 | 331 => 241 | 332 => 242 | 215 => 189 | 343 => 244 | n => n, fun | 28 => 26 | 3 => 3 | 46 => 220 | 0 => 0 | 51 => 242 | 53 => 206 | 4 => 4 | 183 => 267 | 182 => 266 | 131 => 214 | 5 => 5 | 9 => 9 | 218 => 274 | 222 => 278 | 228 => 280 | 229 => 281 | n => n, fun | n => n⟩
theorem Tryz.lays189 : Go.Proofs.Lays.n189 Tryz.prog Tryz.lays189_ren := {
  mixed := by kernel_rfl
  f125 := Tryz.func206.trans (congrArg some (by kernel_rfl))
  f128 := Tryz.func234.trans (congrArg some (by kernel_rfl))
  f129 := Tryz.func235.trans (congrArg some (by kernel_rfl))
  f189 := Tryz.func186.trans (congrArg some (by kernel_rfl))
  f215 := Tryz.func189.trans (congrArg some (by kernel_rfl))
  f216 := Tryz.func231.trans (congrArg some (by kernel_rfl))
  f257 := Tryz.func205.trans (congrArg some (by kernel_rfl))
  f294 := Tryz.func225.trans (congrArg some (by kernel_rfl))
  f295 := Tryz.func226.trans (congrArg some (by kernel_rfl))
  f296 := Tryz.func227.trans (congrArg some (by kernel_rfl))
  f297 := Tryz.func228.trans (congrArg some (by kernel_rfl))
  f298 := Tryz.func229.trans (congrArg some (by kernel_rfl))
  f299 := Tryz.func230.trans (congrArg some (by kernel_rfl))
  f300 := Tryz.func232.trans (congrArg some (by kernel_rfl))
  f301 := Tryz.func233.trans (congrArg some (by kernel_rfl))
  f328 := Tryz.func238.trans (congrArg some (by kernel_rfl))
  f329 := Tryz.func239.trans (congrArg some (by kernel_rfl))
  f330 := Tryz.func240.trans (congrArg some (by kernel_rfl))
  f331 := Tryz.func241.trans (congrArg some (by kernel_rfl))
  f332 := Tryz.func242.trans (congrArg some (by kernel_rfl))
  f343 := Tryz.func244.trans (congrArg some (by kernel_rfl))
  t0 := Tryz.underlying0
  a0 := Tryz.isAgg0
  z0 := Tryz.sizeOf0
  v0 := Tryz.zeroValue0
  t3 := Tryz.underlying3
  a3 := Tryz.isAgg3
  z3 := Tryz.sizeOf3
  v3 := Tryz.zeroValue3
  t4 := Tryz.underlying4
  a4 := Tryz.isAgg4
  z4 := Tryz.sizeOf4
  v4 := Tryz.zeroValue4
  t5 := Tryz.underlying5
  a5 := Tryz.isAgg5
  z5 := Tryz.sizeOf5
  v5 := Tryz.zeroValue5
  t9 := Tryz.underlying9
  a9 := Tryz.isAgg9
  z9 := Tryz.sizeOf9
  v9 := Tryz.zeroValue9
  t28 := Tryz.underlying26
  a28 := Tryz.isAgg26
  z28 := Tryz.sizeOf26
  v28 := Tryz.zeroValue26
  t46 := Tryz.underlying220
  a46 := Tryz.isAgg220
  z46 := Tryz.sizeOf220
  v46 := Tryz.zeroValue220
  t51 := Tryz.underlying242
  a51 := Tryz.isAgg242
  z51 := Tryz.sizeOf242
  v51 := Tryz.zeroValue242
  t53 := Tryz.underlying206
  a53 := Tryz.isAgg206
  z53 := Tryz.sizeOf206
  v53 := Tryz.zeroValue206
  t131 := Tryz.underlying214
  a131 := Tryz.isAgg214
  z131 := Tryz.sizeOf214
  v131 := Tryz.zeroValue214
  t182 := Tryz.underlying266
  a182 := Tryz.isAgg266
  z182 := Tryz.sizeOf266
  v182 := Tryz.zeroValue266
  t183 := Tryz.underlying267
  a183 := Tryz.isAgg267
  z183 := Tryz.sizeOf267
  v183 := Tryz.zeroValue267
  t218 := Tryz.underlying274
  a218 := Tryz.isAgg274
  z218 := Tryz.sizeOf274
  v218 := Tryz.zeroValue274
  t222 := Tryz.underlying278
  a222 := Tryz.isAgg278
  z222 := Tryz.sizeOf278
  v222 := Tryz.zeroValue278
  t228 := Tryz.underlying280
  a228 := Tryz.isAgg280
  z228 := Tryz.sizeOf280
  v228 := Tryz.zeroValue280
  t229 := Tryz.underlying281
  a229 := Tryz.isAgg281
  z229 := Tryz.sizeOf281
  v229 := Tryz.zeroValue281 }
open Go.Sort Go.RowKit in
theorem Tryz.slices_Sort_int (blk off cap : Nat) (zs : List Int) (w : World) (hH : Holds (Value.int .i64) w blk off zs.toArray) (hblk : blk < w.heap.size) (hsz : zs.length < 4611686018427387904) :
    Calls Tryz.prog 186 #[.slice (some ⟨blk, off, none⟩) zs.length cap] w fun e w' =>
      e = .returned (.tuple #[]) ∧ ∃ n os, w' = grow (putRow (Value.int .i64) (Sort.ahead w n) blk off (zs.mergeSort fun x y => decide (x ≤ y)).toArray) os := Any.slices_Sort_int Tryz.lays189 blk off cap zs w hH hblk hsz
def Tryz.laysNm220_ren : Go.Shelf.Ren := ⟨fun | 20 => 160 | n => n, fun | 22 => 26 | 3 => 3 | 4 => 4 | 0 => 0 | n => n, fun | n => n⟩
theorem Tryz.laysNm220 : Go.Proofs.Lays2.n20 Tryz.prog Tryz.laysNm220_ren := {
  mixed := by kernel_rfl
  f20 := Tryz.func160.trans (congrArg some (by kernel_rfl))
  t0 := Tryz.underlying0
  a0 := Tryz.isAgg0
  z0 := Tryz.sizeOf0
  v0 := Tryz.zeroValue0
  t3 := Tryz.underlying3
  a3 := Tryz.isAgg3
  z3 := Tryz.sizeOf3
  v3 := Tryz.zeroValue3
  t4 := Tryz.underlying4
  a4 := Tryz.isAgg4
  z4 := Tryz.sizeOf4
  v4 := Tryz.zeroValue4
  t22 := Tryz.underlying26
  a22 := Tryz.isAgg26
  z22 := Tryz.sizeOf26
  v22 := Tryz.zeroValue26
  i3 := by kernel_rfl }
open Go.RowKit Go.Lib Go.Sort in
theorem Tryz.slices_Compact_int (blk off cap : Nat) (zs : List Int) (w : World) (hH : Holds (Value.int .i64) w blk off zs.toArray) (hsz : zs.length ≤ 9223372036854775807) (hcap : zs.length ≤ cap) :
    Calls Tryz.prog 160 #[.slice (some ⟨blk, off, none⟩) zs.length cap] w fun e w' => e = .returned (.slice (some ⟨blk, off, none⟩) (Lib.compact zs).length cap) ∧ ∃ q, w' = putRow (Value.int .i64) (Sort.ahead w q) blk off (Lib.compact zs ++ List.replicate (zs.length - (Lib.compact zs).length) 0).toArray := Any.slices_Compact_int Tryz.laysNm220 blk off cap zs w hH hsz hcap
open Go.RowKit Go.Lib Go.Sort in
theorem Tryz.slices_Compact_int_empty (a : Option Addr) (cap : Nat) (w : World) :
    Calls Tryz.prog 160 #[.slice a 0 cap] w fun e w' => e = .returned (.slice a 0 cap) ∧ w' = w := Any.slices_Compact_int_empty Tryz.laysNm220 a cap w
open Go.RowKit Go.Sort in
theorem Tryz.slices_Sort_int_none (p : Option Addr) (cap : Nat) (w : World) :
    Calls Tryz.prog 186 #[.slice p 0 cap] w fun e w' => e = .returned (.tuple #[]) ∧ w' = w := Any.slices_Sort_int_none Tryz.lays189 p cap w
end Go.Proofs
