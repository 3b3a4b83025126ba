/-
  DERIVED: THE SHELF's CONTRACTS AT THIS DUMP, IN PLAIN WORDS (tools/lay-plain.mjs out of 'TrydShelf.lean', which tools/lay-shelf.mjs wrote): THE SAME DECLARATIONS UNDER THE SAME NAMES: 'import', 'namespace', 'open', 'def', 'theorem' AND NOTHING ELSE: no command of the shelf's: FOR A HAND-IN. Each laying: the table of numbers ('.._ren') and one theorem, a field a fact of the dump's own or the kernel's comparison; each contract: ONE APPLICATION.
-/
import Derived.Shelf.Strings.Split
import Derived.Shelf.LaysM
import Derived.Shelf.Strings.Shaped
import Derived.Shelf.Strings.SplitShaped
import Derived.Shelf.Sort.Plain
import Derived.Shelf.Slices.In.SortNone2
import Derived.Test.YtipjdpnpahhndaaDoorProg
namespace Go.Proofs
open Go.Shelf
def Tryd.lays191_ren : Go.Shelf.Ren := ⟨fun | 191 => 79 | 189 => 83 | 125 => 89 | 257 => 88 | 128 => 104 | 129 => 105 | 294 => 95 | 295 => 96 | 296 => 97 | 297 => 98 | 298 => 99 | 299 => 100 | 216 => 101 | 300 => 102 | 301 => 103 | 328 => 108 | 329 => 109 | 330 => 110 | 331 => 111 | 332 => 112 | 215 => 113 | 343 => 114 | n => n, fun | 28 => 43 | 0 => 0 | 3 => 3 | 46 => 105 | 51 => 124 | 53 => 126 | 4 => 4 | 183 => 117 | 182 => 116 | 131 => 121 | 5 => 5 | 9 => 9 | 218 => 133 | 222 => 137 | 228 => 139 | 229 => 24 | n => n, fun | n => n⟩
theorem Tryd.lays191 : Go.Proofs.Lays.n191 Tryd.prog Tryd.lays191_ren := {
  mixed := by kernel_rfl
  f125 := Tryd.func89.trans (congrArg some (by kernel_rfl))
  f128 := Tryd.func104.trans (congrArg some (by kernel_rfl))
  f129 := Tryd.func105.trans (congrArg some (by kernel_rfl))
  f189 := Tryd.func83.trans (congrArg some (by kernel_rfl))
  f191 := Tryd.func79.trans (congrArg some (by kernel_rfl))
  f215 := Tryd.func113.trans (congrArg some (by kernel_rfl))
  f216 := Tryd.func101.trans (congrArg some (by kernel_rfl))
  f257 := Tryd.func88.trans (congrArg some (by kernel_rfl))
  f294 := Tryd.func95.trans (congrArg some (by kernel_rfl))
  f295 := Tryd.func96.trans (congrArg some (by kernel_rfl))
  f296 := Tryd.func97.trans (congrArg some (by kernel_rfl))
  f297 := Tryd.func98.trans (congrArg some (by kernel_rfl))
  f298 := Tryd.func99.trans (congrArg some (by kernel_rfl))
  f299 := Tryd.func100.trans (congrArg some (by kernel_rfl))
  f300 := Tryd.func102.trans (congrArg some (by kernel_rfl))
  f301 := Tryd.func103.trans (congrArg some (by kernel_rfl))
  f328 := Tryd.func108.trans (congrArg some (by kernel_rfl))
  f329 := Tryd.func109.trans (congrArg some (by kernel_rfl))
  f330 := Tryd.func110.trans (congrArg some (by kernel_rfl))
  f331 := Tryd.func111.trans (congrArg some (by kernel_rfl))
  f332 := Tryd.func112.trans (congrArg some (by kernel_rfl))
  f343 := Tryd.func114.trans (congrArg some (by kernel_rfl))
  t0 := Tryd.underlying0
  a0 := Tryd.isAgg0
  z0 := Tryd.sizeOf0
  v0 := Tryd.zeroValue0
  t3 := Tryd.underlying3
  a3 := Tryd.isAgg3
  z3 := Tryd.sizeOf3
  v3 := Tryd.zeroValue3
  t4 := Tryd.underlying4
  a4 := Tryd.isAgg4
  z4 := Tryd.sizeOf4
  v4 := Tryd.zeroValue4
  t5 := Tryd.underlying5
  a5 := Tryd.isAgg5
  z5 := Tryd.sizeOf5
  v5 := Tryd.zeroValue5
  t9 := Tryd.underlying9
  a9 := Tryd.isAgg9
  z9 := Tryd.sizeOf9
  v9 := Tryd.zeroValue9
  t28 := Tryd.underlying43
  a28 := Tryd.isAgg43
  z28 := Tryd.sizeOf43
  v28 := Tryd.zeroValue43
  t46 := Tryd.underlying105
  a46 := Tryd.isAgg105
  z46 := Tryd.sizeOf105
  v46 := Tryd.zeroValue105
  t51 := Tryd.underlying124
  a51 := Tryd.isAgg124
  z51 := Tryd.sizeOf124
  v51 := Tryd.zeroValue124
  t53 := Tryd.underlying126
  a53 := Tryd.isAgg126
  z53 := Tryd.sizeOf126
  v53 := Tryd.zeroValue126
  t131 := Tryd.underlying121
  a131 := Tryd.isAgg121
  z131 := Tryd.sizeOf121
  v131 := Tryd.zeroValue121
  t182 := Tryd.underlying116
  a182 := Tryd.isAgg116
  z182 := Tryd.sizeOf116
  v182 := Tryd.zeroValue116
  t183 := Tryd.underlying117
  a183 := Tryd.isAgg117
  z183 := Tryd.sizeOf117
  v183 := Tryd.zeroValue117
  t218 := Tryd.underlying133
  a218 := Tryd.isAgg133
  z218 := Tryd.sizeOf133
  v218 := Tryd.zeroValue133
  t222 := Tryd.underlying137
  a222 := Tryd.isAgg137
  z222 := Tryd.sizeOf137
  v222 := Tryd.zeroValue137
  t228 := Tryd.underlying139
  a228 := Tryd.isAgg139
  z228 := Tryd.sizeOf139
  v228 := Tryd.zeroValue139
  t229 := Tryd.underlying24
  a229 := Tryd.isAgg24
  z229 := Tryd.sizeOf24
  v229 := Tryd.zeroValue24 }
open Go.Sort Go.RowKit in
theorem Tryd.sort_Ints (blk off cap : Nat) (zs : List Int) (w : World) (hH : Holds (Value.int .i64) w blk off zs.toArray) (hblk : blk < w.heap.size) (hsz : zs.length < 4611686018427387904) :
    Calls Tryd.prog 79 #[.slice (some ⟨blk, off, none⟩) zs.length cap] w fun e w' =>
      e = .returned (.tuple #[]) ∧ ∃ n os, w' = grow (putRow (Value.int .i64) (Sort.ahead w n) blk off (zs.mergeSort fun x y => decide (x ≤ y)).toArray) os := Any.sort_Ints Tryd.lays191 blk off cap zs w hH hblk hsz
def Tryd.lays146_ren : Go.Shelf.Ren := ⟨fun | 146 => 66 | 221 => 78 | 268 => 80 | 138 => 81 | 143 => 82 | 195 => 84 | 197 => 85 | 218 => 86 | 219 => 87 | 260 => 90 | 217 => 91 | 225 => 92 | 224 => 93 | 267 => 94 | 266 => 106 | 314 => 107 | n => n, fun | 9 => 9 | 31 => 89 | 3 => 3 | 4 => 4 | 0 => 0 | 105 => 109 | 21 => 21 | 5 => 5 | 46 => 105 | 119 => 127 | 139 => 130 | 138 => 129 | 146 => 131 | 51 => 124 | n => n, fun | 1 => 0 | 3 => 1 | 4 => 2 | n => n⟩
theorem Tryd.lays146 : Go.Proofs.Lays.n146 Tryd.prog Tryd.lays146_ren := {
  mixed := by kernel_rfl
  f138 := Tryd.func81.trans (congrArg some (by kernel_rfl))
  f143 := Tryd.func82.trans (congrArg some (by kernel_rfl))
  f146 := Tryd.func66.trans (congrArg some (by kernel_rfl))
  f195 := Tryd.func84.trans (congrArg some (by kernel_rfl))
  f197 := Tryd.func85.trans (congrArg some (by kernel_rfl))
  f217 := Tryd.func91.trans (congrArg some (by kernel_rfl))
  f218 := Tryd.func86.trans (congrArg some (by kernel_rfl))
  f219 := Tryd.func87.trans (congrArg some (by kernel_rfl))
  f221 := Tryd.func78.trans (congrArg some (by kernel_rfl))
  f224 := Tryd.func93.trans (congrArg some (by kernel_rfl))
  f225 := Tryd.func92.trans (congrArg some (by kernel_rfl))
  f260 := Tryd.func90.trans (congrArg some (by kernel_rfl))
  f266 := Tryd.func106.trans (congrArg some (by kernel_rfl))
  f267 := Tryd.func94.trans (congrArg some (by kernel_rfl))
  f268 := Tryd.func80.trans (congrArg some (by kernel_rfl))
  f314 := Tryd.func107.trans (congrArg some (by kernel_rfl))
  t0 := Tryd.underlying0
  a0 := Tryd.isAgg0
  z0 := Tryd.sizeOf0
  v0 := Tryd.zeroValue0
  t3 := Tryd.underlying3
  a3 := Tryd.isAgg3
  z3 := Tryd.sizeOf3
  v3 := Tryd.zeroValue3
  t4 := Tryd.underlying4
  a4 := Tryd.isAgg4
  z4 := Tryd.sizeOf4
  v4 := Tryd.zeroValue4
  t5 := Tryd.underlying5
  a5 := Tryd.isAgg5
  z5 := Tryd.sizeOf5
  v5 := Tryd.zeroValue5
  t9 := Tryd.underlying9
  a9 := Tryd.isAgg9
  z9 := Tryd.sizeOf9
  v9 := Tryd.zeroValue9
  t21 := Tryd.underlying21
  a21 := Tryd.isAgg21
  z21 := Tryd.sizeOf21
  v21 := Tryd.zeroValue21
  t31 := Tryd.underlying89
  a31 := Tryd.isAgg89
  z31 := Tryd.sizeOf89
  v31 := Tryd.zeroValue89
  t46 := Tryd.underlying105
  a46 := Tryd.isAgg105
  z46 := Tryd.sizeOf105
  v46 := Tryd.zeroValue105
  t51 := Tryd.underlying124
  a51 := Tryd.isAgg124
  z51 := Tryd.sizeOf124
  v51 := Tryd.zeroValue124
  t105 := Tryd.underlying109
  a105 := Tryd.isAgg109
  z105 := Tryd.sizeOf109
  v105 := Tryd.zeroValue109
  t119 := Tryd.underlying127
  a119 := Tryd.isAgg127
  z119 := Tryd.sizeOf127
  t138 := Tryd.underlying129
  a138 := Tryd.isAgg129
  z138 := Tryd.sizeOf129
  v138 := Tryd.zeroValue129
  t139 := Tryd.underlying130
  a139 := Tryd.isAgg130
  z139 := Tryd.sizeOf130
  v139 := Tryd.zeroValue130
  t146 := Tryd.underlying131
  a146 := Tryd.isAgg131
  z146 := Tryd.sizeOf131
  v146 := Tryd.zeroValue131
  g1 := by kernel_rfl
  g3 := by kernel_rfl
  g4 := by kernel_rfl }
open Go.RowKit Go.Lib in
/-- strings.Split. (LAID: no walk: one application.) -/
theorem Tryd.strings_Split (s sep : ByteArray) (m : Int) (w : World) (hs : s.size < 4294967281) (hm : w.cell? ⟨0, 0, none⟩ = some (.int .i64 m)) (h1 : 1 ≤ sep.size) :
    Calls Tryd.prog 66 #[.string s, .string sep] w fun e w' =>
      e = .returned (.slice (some ⟨w.heap.size, 0, none⟩) (Lib.countB s sep + 1) (Lib.countB s sep + 1)) ∧ w' = w.alloc (.cells ((Lib.splitB sep 0 (Lib.countB s sep) s).map Value.string).toArray 9) := Any.strings_Split Tryd.lays146 (by kernel_rfl) s sep m w hs hm h1
def Tryd.laysM146_ren : Go.Shelf.Ren := ⟨fun | 146 => 66 | 221 => 78 | 268 => 80 | 138 => 81 | 143 => 82 | 195 => 84 | 197 => 85 | 218 => 86 | 219 => 87 | 260 => 90 | 217 => 91 | 225 => 92 | 224 => 93 | 267 => 94 | 266 => 106 | 314 => 107 | n => n, fun | 9 => 9 | 31 => 89 | 3 => 3 | 4 => 4 | 0 => 0 | 105 => 109 | 21 => 21 | 5 => 5 | 46 => 105 | 119 => 127 | 139 => 130 | 138 => 129 | 146 => 131 | 51 => 124 | n => n, fun | 1 => 0 | 3 => 1 | 4 => 2 | n => n⟩
theorem Tryd.laysM146 : Go.Proofs.LaysM.n146 Tryd.prog Tryd.laysM146_ren := {
  mixed := by kernel_rfl
  f138 := Tryd.func81.trans (congrArg some (by kernel_rfl))
  f143 := Tryd.func82.trans (congrArg some (by kernel_rfl))
  f146 := Tryd.func66.trans (congrArg some (by kernel_rfl))
  f195 := Tryd.func84.trans (congrArg some (by kernel_rfl))
  f197 := Tryd.func85.trans (congrArg some (by kernel_rfl))
  f217 := Tryd.func91.trans (congrArg some (by kernel_rfl))
  f218 := Tryd.func86.trans (congrArg some (by kernel_rfl))
  f219 := Tryd.func87.trans (congrArg some (by kernel_rfl))
  f221 := Tryd.func78.trans (congrArg some (by kernel_rfl))
  f224 := Tryd.func93.trans (congrArg some (by kernel_rfl))
  f225 := Tryd.func92.trans (congrArg some (by kernel_rfl))
  f260 := Tryd.func90.trans (congrArg some (by kernel_rfl))
  f266 := Tryd.func106.trans (congrArg some (by kernel_rfl))
  f267 := Tryd.func94.trans (congrArg some (by kernel_rfl))
  f268 := Tryd.func80.trans (congrArg some (by kernel_rfl))
  f314 := Tryd.func107.trans (congrArg some (by kernel_rfl))
  t0 := Tryd.underlying0
  a0 := Tryd.isAgg0
  z0 := Tryd.sizeOf0
  v0 := Tryd.zeroValue0
  t3 := Tryd.underlying3
  a3 := Tryd.isAgg3
  z3 := Tryd.sizeOf3
  v3 := Tryd.zeroValue3
  t4 := Tryd.underlying4
  a4 := Tryd.isAgg4
  z4 := Tryd.sizeOf4
  v4 := Tryd.zeroValue4
  t5 := Tryd.underlying5
  a5 := Tryd.isAgg5
  z5 := Tryd.sizeOf5
  v5 := Tryd.zeroValue5
  t9 := Tryd.underlying9
  a9 := Tryd.isAgg9
  z9 := Tryd.sizeOf9
  v9 := Tryd.zeroValue9
  t21 := Tryd.underlying21
  a21 := Tryd.isAgg21
  z21 := Tryd.sizeOf21
  v21 := Tryd.zeroValue21
  t31 := Tryd.underlying89
  a31 := Tryd.isAgg89
  z31 := Tryd.sizeOf89
  v31 := Tryd.zeroValue89
  t46 := Tryd.underlying105
  a46 := Tryd.isAgg105
  z46 := Tryd.sizeOf105
  v46 := Tryd.zeroValue105
  t51 := Tryd.underlying124
  a51 := Tryd.isAgg124
  z51 := Tryd.sizeOf124
  v51 := Tryd.zeroValue124
  t105 := Tryd.underlying109
  a105 := Tryd.isAgg109
  z105 := Tryd.sizeOf109
  v105 := Tryd.zeroValue109
  t119 := Tryd.underlying127
  a119 := Tryd.isAgg127
  z119 := Tryd.sizeOf127
  t138 := Tryd.underlying129
  a138 := Tryd.isAgg129
  z138 := Tryd.sizeOf129
  v138 := Tryd.zeroValue129
  t139 := Tryd.underlying130
  a139 := Tryd.isAgg130
  z139 := Tryd.sizeOf130
  v139 := Tryd.zeroValue130
  t146 := Tryd.underlying131
  a146 := Tryd.isAgg131
  z146 := Tryd.sizeOf131
  v146 := Tryd.zeroValue131
  g1 := by kernel_rfl
  g3 := by kernel_rfl
  g4 := by kernel_rfl
  i0 := by kernel_rfl
  i3 := by kernel_rfl
  i4 := by kernel_rfl
  i5 := by kernel_rfl
  i9 := by kernel_rfl
  i21 := by kernel_rfl
  i31 := by kernel_rfl
  i46 := by kernel_rfl
  i51 := by kernel_rfl
  i105 := by kernel_rfl
  i138 := by kernel_rfl
  i139 := by kernel_rfl
  i146 := by kernel_rfl
  m1 := by kernel_rfl
  s1_3 := fun w h => Go.Proofs.cell_of_shapedOpen_int (zero := #[.int .i64 0]) (t := 3) h (of_decide_eq_true (by kernel_rfl)) (by kernel_rfl) rfl (by kernel_rfl) (by kernel_rfl) Tryd.underlying3
  m3 := by kernel_rfl
  m4 := by kernel_rfl }
open Go.RowKit Go.Lib in
/-- strings.Split, sep not empty. (LAID: no walk: one application.) -/
theorem Tryd.strings_Split_shaped (s sep : ByteArray) (w : World) (h : w.ShapedOpen Tryd.prog) (hs : s.size < 4294967281) (h1 : 1 ≤ sep.size) :
    Calls Tryd.prog 66 #[.string s, .string sep] w fun e w' =>
      e = .returned (.slice (some ⟨w.heap.size, 0, none⟩) (Lib.countB s sep + 1) (Lib.countB s sep + 1)) ∧ w' = w.alloc (.cells ((Lib.splitB sep 0 (Lib.countB s sep) s).map Value.string).toArray 9) := Any.strings_Split_shaped Tryd.laysM146 s sep w h hs h1
open Go.RowKit Go.Sort in
/-- .. and plain. (LAID: no walk: one application.) -/
theorem Tryd.sort_Ints_none (p : Option Addr) (cap : Nat) (w : World) :
    Calls Tryd.prog 79 #[.slice p 0 cap] w fun e w' => e = .returned (.tuple #[]) ∧ w' = w := Any.sort_Ints_none Tryd.lays191 p cap w
end Go.Proofs
