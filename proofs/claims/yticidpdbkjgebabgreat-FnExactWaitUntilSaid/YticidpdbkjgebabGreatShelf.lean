/-
  DERIVED: THE SHELF's CONTRACTS AT THIS DUMP, IN PLAIN WORDS (tools/lay-plain.mjs out of 'TryzShelf.lean', which tools/lay-shelf.mjs wrote): THE SAME DECLARATIONS UNDER THE SAME NAMES: 'import', 'namespace', 'open', 'def', 'theorem' AND NOTHING ELSE: no command of the shelf's: FOR A HAND-IN. Each laying: the table of numbers ('.._ren') and one theorem, a field a fact of the dump's own or the kernel's comparison; each contract: ONE APPLICATION.
-/
import Derived.Shelf.Sort.Plain
import Derived.Shelf.Slices.In.SortNone2
import Derived.Test.YticidpdbkjgebabGreatProg
namespace Go.Proofs
open Go.Shelf
def Tryz.lays191_ren : Go.Shelf.Ren := ⟨fun | 191 => 155 | 189 => 158 | 125 => 160 | 257 => 159 | 128 => 170 | 129 => 171 | 294 => 161 | 295 => 162 | 296 => 163 | 297 => 164 | 298 => 165 | 299 => 166 | 216 => 167 | 300 => 168 | 301 => 169 | 328 => 172 | 329 => 173 | 330 => 174 | 331 => 175 | 332 => 176 | 215 => 177 | 343 => 178 | n => n, fun | 28 => 71 | 0 => 0 | 3 => 3 | 46 => 189 | 51 => 199 | 53 => 201 | 4 => 4 | 183 => 192 | 182 => 191 | 131 => 131 | 5 => 5 | 9 => 9 | 218 => 202 | 222 => 206 | 228 => 208 | 229 => 138 | n => n, fun | n => n⟩
theorem Tryz.lays191 : Go.Proofs.Lays.n191 Tryz.prog Tryz.lays191_ren := {
  mixed := by kernel_rfl
  f125 := Tryz.func160.trans (congrArg some (by kernel_rfl))
  f128 := Tryz.func170.trans (congrArg some (by kernel_rfl))
  f129 := Tryz.func171.trans (congrArg some (by kernel_rfl))
  f189 := Tryz.func158.trans (congrArg some (by kernel_rfl))
  f191 := Tryz.func155.trans (congrArg some (by kernel_rfl))
  f215 := Tryz.func177.trans (congrArg some (by kernel_rfl))
  f216 := Tryz.func167.trans (congrArg some (by kernel_rfl))
  f257 := Tryz.func159.trans (congrArg some (by kernel_rfl))
  f294 := Tryz.func161.trans (congrArg some (by kernel_rfl))
  f295 := Tryz.func162.trans (congrArg some (by kernel_rfl))
  f296 := Tryz.func163.trans (congrArg some (by kernel_rfl))
  f297 := Tryz.func164.trans (congrArg some (by kernel_rfl))
  f298 := Tryz.func165.trans (congrArg some (by kernel_rfl))
  f299 := Tryz.func166.trans (congrArg some (by kernel_rfl))
  f300 := Tryz.func168.trans (congrArg some (by kernel_rfl))
  f301 := Tryz.func169.trans (congrArg some (by kernel_rfl))
  f328 := Tryz.func172.trans (congrArg some (by kernel_rfl))
  f329 := Tryz.func173.trans (congrArg some (by kernel_rfl))
  f330 := Tryz.func174.trans (congrArg some (by kernel_rfl))
  f331 := Tryz.func175.trans (congrArg some (by kernel_rfl))
  f332 := Tryz.func176.trans (congrArg some (by kernel_rfl))
  f343 := Tryz.func178.trans (congrArg some (by kernel_rfl))
  t0 := Tryz.underlying0
  a0 := Tryz.isAgg0
  z0 := Tryz.sizeOf0
  v0 := Tryz.zeroValue0
  t3 := Tryz.underlying3
  a3 := Tryz.isAgg3
  z3 := Tryz.sizeOf3
  v3 := Tryz.zeroValue3
  t4 := Tryz.underlying4
  a4 := Tryz.isAgg4
  z4 := Tryz.sizeOf4
  v4 := Tryz.zeroValue4
  t5 := Tryz.underlying5
  a5 := Tryz.isAgg5
  z5 := Tryz.sizeOf5
  v5 := Tryz.zeroValue5
  t9 := Tryz.underlying9
  a9 := Tryz.isAgg9
  z9 := Tryz.sizeOf9
  v9 := Tryz.zeroValue9
  t28 := Tryz.underlying71
  a28 := Tryz.isAgg71
  z28 := Tryz.sizeOf71
  v28 := Tryz.zeroValue71
  t46 := Tryz.underlying189
  a46 := Tryz.isAgg189
  z46 := Tryz.sizeOf189
  v46 := Tryz.zeroValue189
  t51 := Tryz.underlying199
  a51 := Tryz.isAgg199
  z51 := Tryz.sizeOf199
  v51 := Tryz.zeroValue199
  t53 := Tryz.underlying201
  a53 := Tryz.isAgg201
  z53 := Tryz.sizeOf201
  v53 := Tryz.zeroValue201
  t131 := Tryz.underlying131
  a131 := Tryz.isAgg131
  z131 := Tryz.sizeOf131
  v131 := Tryz.zeroValue131
  t182 := Tryz.underlying191
  a182 := Tryz.isAgg191
  z182 := Tryz.sizeOf191
  v182 := Tryz.zeroValue191
  t183 := Tryz.underlying192
  a183 := Tryz.isAgg192
  z183 := Tryz.sizeOf192
  v183 := Tryz.zeroValue192
  t218 := Tryz.underlying202
  a218 := Tryz.isAgg202
  z218 := Tryz.sizeOf202
  v218 := Tryz.zeroValue202
  t222 := Tryz.underlying206
  a222 := Tryz.isAgg206
  z222 := Tryz.sizeOf206
  v222 := Tryz.zeroValue206
  t228 := Tryz.underlying208
  a228 := Tryz.isAgg208
  z228 := Tryz.sizeOf208
  v228 := Tryz.zeroValue208
  t229 := Tryz.underlying138
  a229 := Tryz.isAgg138
  z229 := Tryz.sizeOf138
  v229 := Tryz.zeroValue138 }
open Go.Sort Go.RowKit in
theorem Tryz.sort_Ints (blk off cap : Nat) (zs : List Int) (w : World) (hH : Holds (Value.int .i64) w blk off zs.toArray) (hblk : blk < w.heap.size) (hsz : zs.length < 4611686018427387904) :
    Calls Tryz.prog 155 #[.slice (some ⟨blk, off, none⟩) zs.length cap] w fun e w' =>
      e = .returned (.tuple #[]) ∧ ∃ n os, w' = grow (putRow (Value.int .i64) (Sort.ahead w n) blk off (zs.mergeSort fun x y => decide (x ≤ y)).toArray) os := Any.sort_Ints Tryz.lays191 blk off cap zs w hH hblk hsz
open Go.RowKit Go.Sort in
/-- .. and plain. (LAID: no walk: one application.) -/
theorem Tryz.sort_Ints_none (p : Option Addr) (cap : Nat) (w : World) :
    Calls Tryz.prog 155 #[.slice p 0 cap] w fun e w' => e = .returned (.tuple #[]) ∧ w' = w := Any.sort_Ints_none Tryz.lays191 p cap w
end Go.Proofs
