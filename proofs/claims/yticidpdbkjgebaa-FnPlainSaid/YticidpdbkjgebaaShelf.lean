/-
  DERIVED: THE SHELF's CONTRACTS AT THIS DUMP, IN PLAIN WORDS (tools/lay-plain.mjs out of 'TryShelf.lean', which tools/lay-shelf.mjs wrote): THE SAME DECLARATIONS UNDER THE SAME NAMES: 'import', 'namespace', 'open', 'def', 'theorem' AND NOTHING ELSE: no command of the shelf's: FOR A HAND-IN. Each laying: the table of numbers ('.._ren') and one theorem, a field a fact of the dump's own or the kernel's comparison; each contract: ONE APPLICATION.
-/
import Derived.Shelf.Sort.Plain
import Derived.Shelf.Slices.In.SortNone2
import Derived.Test.YticidpdbkjgebaaProg
namespace Go.Proofs
open Go.Shelf
def Try.lays191_ren : Go.Shelf.Ren := ⟨fun | 191 => 74 | 189 => 76 | 125 => 78 | 257 => 77 | 128 => 88 | 129 => 89 | 294 => 79 | 295 => 80 | 296 => 81 | 297 => 82 | 298 => 83 | 299 => 84 | 216 => 85 | 300 => 86 | 301 => 87 | 328 => 90 | 329 => 91 | 330 => 92 | 331 => 93 | 332 => 94 | 215 => 95 | 343 => 96 | n => n, fun | 28 => 58 | 0 => 0 | 3 => 3 | 46 => 127 | 51 => 144 | 53 => 146 | 4 => 4 | 183 => 137 | 182 => 136 | 131 => 106 | 5 => 5 | 9 => 9 | 218 => 147 | 222 => 151 | 228 => 153 | 229 => 111 | n => n, fun | n => n⟩
theorem Try.lays191 : Go.Proofs.Lays.n191 Try.prog Try.lays191_ren := {
  mixed := by kernel_rfl
  f125 := Try.func78.trans (congrArg some (by kernel_rfl))
  f128 := Try.func88.trans (congrArg some (by kernel_rfl))
  f129 := Try.func89.trans (congrArg some (by kernel_rfl))
  f189 := Try.func76.trans (congrArg some (by kernel_rfl))
  f191 := Try.func74.trans (congrArg some (by kernel_rfl))
  f215 := Try.func95.trans (congrArg some (by kernel_rfl))
  f216 := Try.func85.trans (congrArg some (by kernel_rfl))
  f257 := Try.func77.trans (congrArg some (by kernel_rfl))
  f294 := Try.func79.trans (congrArg some (by kernel_rfl))
  f295 := Try.func80.trans (congrArg some (by kernel_rfl))
  f296 := Try.func81.trans (congrArg some (by kernel_rfl))
  f297 := Try.func82.trans (congrArg some (by kernel_rfl))
  f298 := Try.func83.trans (congrArg some (by kernel_rfl))
  f299 := Try.func84.trans (congrArg some (by kernel_rfl))
  f300 := Try.func86.trans (congrArg some (by kernel_rfl))
  f301 := Try.func87.trans (congrArg some (by kernel_rfl))
  f328 := Try.func90.trans (congrArg some (by kernel_rfl))
  f329 := Try.func91.trans (congrArg some (by kernel_rfl))
  f330 := Try.func92.trans (congrArg some (by kernel_rfl))
  f331 := Try.func93.trans (congrArg some (by kernel_rfl))
  f332 := Try.func94.trans (congrArg some (by kernel_rfl))
  f343 := Try.func96.trans (congrArg some (by kernel_rfl))
  t0 := Try.underlying0
  a0 := Try.isAgg0
  z0 := Try.sizeOf0
  v0 := Try.zeroValue0
  t3 := Try.underlying3
  a3 := Try.isAgg3
  z3 := Try.sizeOf3
  v3 := Try.zeroValue3
  t4 := Try.underlying4
  a4 := Try.isAgg4
  z4 := Try.sizeOf4
  v4 := Try.zeroValue4
  t5 := Try.underlying5
  a5 := Try.isAgg5
  z5 := Try.sizeOf5
  v5 := Try.zeroValue5
  t9 := Try.underlying9
  a9 := Try.isAgg9
  z9 := Try.sizeOf9
  v9 := Try.zeroValue9
  t28 := Try.underlying58
  a28 := Try.isAgg58
  z28 := Try.sizeOf58
  v28 := Try.zeroValue58
  t46 := Try.underlying127
  a46 := Try.isAgg127
  z46 := Try.sizeOf127
  v46 := Try.zeroValue127
  t51 := Try.underlying144
  a51 := Try.isAgg144
  z51 := Try.sizeOf144
  v51 := Try.zeroValue144
  t53 := Try.underlying146
  a53 := Try.isAgg146
  z53 := Try.sizeOf146
  v53 := Try.zeroValue146
  t131 := Try.underlying106
  a131 := Try.isAgg106
  z131 := Try.sizeOf106
  v131 := Try.zeroValue106
  t182 := Try.underlying136
  a182 := Try.isAgg136
  z182 := Try.sizeOf136
  v182 := Try.zeroValue136
  t183 := Try.underlying137
  a183 := Try.isAgg137
  z183 := Try.sizeOf137
  v183 := Try.zeroValue137
  t218 := Try.underlying147
  a218 := Try.isAgg147
  z218 := Try.sizeOf147
  v218 := Try.zeroValue147
  t222 := Try.underlying151
  a222 := Try.isAgg151
  z222 := Try.sizeOf151
  v222 := Try.zeroValue151
  t228 := Try.underlying153
  a228 := Try.isAgg153
  z228 := Try.sizeOf153
  v228 := Try.zeroValue153
  t229 := Try.underlying111
  a229 := Try.isAgg111
  z229 := Try.sizeOf111
  v229 := Try.zeroValue111 }
open Go.Sort Go.RowKit in
theorem Try.sort_Ints (blk off cap : Nat) (zs : List Int) (w : World) (hH : Holds (Value.int .i64) w blk off zs.toArray) (hblk : blk < w.heap.size) (hsz : zs.length < 4611686018427387904) :
    Calls Try.prog 74 #[.slice (some ⟨blk, off, none⟩) zs.length cap] w fun e w' =>
      e = .returned (.tuple #[]) ∧ ∃ n os, w' = grow (putRow (Value.int .i64) (Sort.ahead w n) blk off (zs.mergeSort fun x y => decide (x ≤ y)).toArray) os := Any.sort_Ints Try.lays191 blk off cap zs w hH hblk hsz
open Go.RowKit Go.Sort in
/-- .. and plain. (LAID: no walk: one application.) -/
theorem Try.sort_Ints_none (p : Option Addr) (cap : Nat) (w : World) :
    Calls Try.prog 74 #[.slice p 0 cap] w fun e w' => e = .returned (.tuple #[]) ∧ w' = w := Any.sort_Ints_none Try.lays191 p cap w
end Go.Proofs
