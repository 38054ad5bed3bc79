/-
  DERIVED: THE SHELF's CONTRACTS AT THIS DUMP, IN PLAIN WORDS (tools/lay-plain.mjs out of 'TryzShelf.lean', which tools/lay-shelf.mjs wrote): THE SAME DECLARATIONS UNDER THE SAME NAMES: 'import', 'namespace', 'open', 'def', 'theorem' AND NOTHING ELSE: no command of the shelf's: FOR A HAND-IN. Each laying: the table of numbers ('.._ren') and one theorem, a field a fact of the dump's own or the kernel's comparison; each contract: ONE APPLICATION.
-/
import Derived.Shelf.Sort.Plain
import Derived.Shelf.Slices.In.SortNone
import Derived.Test.YthmdmchmmgmblaaGreatProg
namespace Go.Proofs
open Go.Shelf
def Tryz.lays189_ren : Go.Shelf.Ren := ⟨fun | 189 => 158 | 125 => 172 | 257 => 171 | 128 => 195 | 129 => 196 | 294 => 187 | 295 => 188 | 296 => 189 | 297 => 190 | 298 => 191 | 299 => 192 | 216 => 146 | 300 => 193 | 301 => 194 | 328 => 200 | 329 => 201 | 330 => 202 | 331 => 203 | 332 => 204 | 215 => 143 | 343 => 206 | n => n, fun | 28 => 26 | 3 => 3 | 46 => 181 | 0 => 0 | 51 => 222 | 53 => 224 | 4 => 4 | 183 => 216 | 182 => 215 | 131 => 167 | 5 => 5 | 9 => 9 | 218 => 225 | 222 => 229 | 228 => 231 | 229 => 232 | n => n, fun | n => n⟩
theorem Tryz.lays189 : Go.Proofs.Lays.n189 Tryz.prog Tryz.lays189_ren := {
  mixed := by kernel_rfl
  f125 := Tryz.func172.trans (congrArg some (by kernel_rfl))
  f128 := Tryz.func195.trans (congrArg some (by kernel_rfl))
  f129 := Tryz.func196.trans (congrArg some (by kernel_rfl))
  f189 := Tryz.func158.trans (congrArg some (by kernel_rfl))
  f215 := Tryz.func143.trans (congrArg some (by kernel_rfl))
  f216 := Tryz.func146.trans (congrArg some (by kernel_rfl))
  f257 := Tryz.func171.trans (congrArg some (by kernel_rfl))
  f294 := Tryz.func187.trans (congrArg some (by kernel_rfl))
  f295 := Tryz.func188.trans (congrArg some (by kernel_rfl))
  f296 := Tryz.func189.trans (congrArg some (by kernel_rfl))
  f297 := Tryz.func190.trans (congrArg some (by kernel_rfl))
  f298 := Tryz.func191.trans (congrArg some (by kernel_rfl))
  f299 := Tryz.func192.trans (congrArg some (by kernel_rfl))
  f300 := Tryz.func193.trans (congrArg some (by kernel_rfl))
  f301 := Tryz.func194.trans (congrArg some (by kernel_rfl))
  f328 := Tryz.func200.trans (congrArg some (by kernel_rfl))
  f329 := Tryz.func201.trans (congrArg some (by kernel_rfl))
  f330 := Tryz.func202.trans (congrArg some (by kernel_rfl))
  f331 := Tryz.func203.trans (congrArg some (by kernel_rfl))
  f332 := Tryz.func204.trans (congrArg some (by kernel_rfl))
  f343 := Tryz.func206.trans (congrArg some (by kernel_rfl))
  t0 := Tryz.underlying0
  a0 := Tryz.isAgg0
  z0 := Tryz.sizeOf0
  v0 := Tryz.zeroValue0
  t3 := Tryz.underlying3
  a3 := Tryz.isAgg3
  z3 := Tryz.sizeOf3
  v3 := Tryz.zeroValue3
  t4 := Tryz.underlying4
  a4 := Tryz.isAgg4
  z4 := Tryz.sizeOf4
  v4 := Tryz.zeroValue4
  t5 := Tryz.underlying5
  a5 := Tryz.isAgg5
  z5 := Tryz.sizeOf5
  v5 := Tryz.zeroValue5
  t9 := Tryz.underlying9
  a9 := Tryz.isAgg9
  z9 := Tryz.sizeOf9
  v9 := Tryz.zeroValue9
  t28 := Tryz.underlying26
  a28 := Tryz.isAgg26
  z28 := Tryz.sizeOf26
  v28 := Tryz.zeroValue26
  t46 := Tryz.underlying181
  a46 := Tryz.isAgg181
  z46 := Tryz.sizeOf181
  v46 := Tryz.zeroValue181
  t51 := Tryz.underlying222
  a51 := Tryz.isAgg222
  z51 := Tryz.sizeOf222
  v51 := Tryz.zeroValue222
  t53 := Tryz.underlying224
  a53 := Tryz.isAgg224
  z53 := Tryz.sizeOf224
  v53 := Tryz.zeroValue224
  t131 := Tryz.underlying167
  a131 := Tryz.isAgg167
  z131 := Tryz.sizeOf167
  v131 := Tryz.zeroValue167
  t182 := Tryz.underlying215
  a182 := Tryz.isAgg215
  z182 := Tryz.sizeOf215
  v182 := Tryz.zeroValue215
  t183 := Tryz.underlying216
  a183 := Tryz.isAgg216
  z183 := Tryz.sizeOf216
  v183 := Tryz.zeroValue216
  t218 := Tryz.underlying225
  a218 := Tryz.isAgg225
  z218 := Tryz.sizeOf225
  v218 := Tryz.zeroValue225
  t222 := Tryz.underlying229
  a222 := Tryz.isAgg229
  z222 := Tryz.sizeOf229
  v222 := Tryz.zeroValue229
  t228 := Tryz.underlying231
  a228 := Tryz.isAgg231
  z228 := Tryz.sizeOf231
  v228 := Tryz.zeroValue231
  t229 := Tryz.underlying232
  a229 := Tryz.isAgg232
  z229 := Tryz.sizeOf232
  v229 := Tryz.zeroValue232 }
open Go.Sort Go.RowKit in
theorem Tryz.slices_Sort_int (blk off cap : Nat) (zs : List Int) (w : World) (hH : Holds (Value.int .i64) w blk off zs.toArray) (hblk : blk < w.heap.size) (hsz : zs.length < 4611686018427387904) :
    Calls Tryz.prog 158 #[.slice (some ⟨blk, off, none⟩) zs.length cap] w fun e w' =>
      e = .returned (.tuple #[]) ∧ ∃ n os, w' = grow (putRow (Value.int .i64) (Sort.ahead w n) blk off (zs.mergeSort fun x y => decide (x ≤ y)).toArray) os := Any.slices_Sort_int Tryz.lays189 blk off cap zs w hH hblk hsz
open Go.RowKit Go.Sort in
/-- .. and plain. (LAID: no walk: one application.) -/
theorem Tryz.slices_Sort_int_none (p : Option Addr) (cap : Nat) (w : World) :
    Calls Tryz.prog 158 #[.slice p 0 cap] w fun e w' => e = .returned (.tuple #[]) ∧ w' = w := Any.slices_Sort_int_none Tryz.lays189 p cap w
end Go.Proofs
