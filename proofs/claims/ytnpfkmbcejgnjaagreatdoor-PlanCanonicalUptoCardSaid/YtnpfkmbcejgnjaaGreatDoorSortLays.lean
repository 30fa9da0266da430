/-
  Contracts of Go's library at this program (sorting and compacting of numbers): written by the shelf's tool (plain mode), some of them picked.
-/
import Derived.Shelf.Lays2
import Derived.Shelf.Sort.Plain
import Derived.Shelf.Slices.In.SortNone
import Derived.Shelf.Slices.CompactI
import Derived.Test.YtnpfkmbcejgnjaaGreatDoorProg
namespace Go.Proofs
open Go.Shelf
def Tryz.lays189_ren : Go.Shelf.Ren := ⟨fun | 189 => 35 | 125 => 85 | 257 => 84 | 128 => 138 | 129 => 139 | 294 => 129 | 295 => 130 | 296 => 131 | 297 => 132 | 298 => 133 | 299 => 134 | 216 => 135 | 300 => 136 | 301 => 137 | 328 => 165 | 329 => 166 | 330 => 167 | 331 => 168 | 332 => 169 | 215 => 170 | 343 => 213 | n => n, fun | 28 => 60 | 3 => 3 | 46 => 110 | 0 => 0 | 51 => 165 | 53 => 167 | 4 => 4 | 183 => 157 | 182 => 156 | 131 => 162 | 5 => 5 | 9 => 9 | 218 => 187 | 222 => 152 | 228 => 231 | 229 => 122 | n => n, fun | n => n⟩
theorem Tryz.lays189 : Go.Proofs.Lays.n189 Tryz.prog Tryz.lays189_ren := {
  mixed := by kernel_rfl
  f125 := Tryz.func85.trans (congrArg some (by kernel_rfl))
  f128 := Tryz.func138.trans (congrArg some (by kernel_rfl))
  f129 := Tryz.func139.trans (congrArg some (by kernel_rfl))
  f189 := Tryz.func35.trans (congrArg some (by kernel_rfl))
  f215 := Tryz.func170.trans (congrArg some (by kernel_rfl))
  f216 := Tryz.func135.trans (congrArg some (by kernel_rfl))
  f257 := Tryz.func84.trans (congrArg some (by kernel_rfl))
  f294 := Tryz.func129.trans (congrArg some (by kernel_rfl))
  f295 := Tryz.func130.trans (congrArg some (by kernel_rfl))
  f296 := Tryz.func131.trans (congrArg some (by kernel_rfl))
  f297 := Tryz.func132.trans (congrArg some (by kernel_rfl))
  f298 := Tryz.func133.trans (congrArg some (by kernel_rfl))
  f299 := Tryz.func134.trans (congrArg some (by kernel_rfl))
  f300 := Tryz.func136.trans (congrArg some (by kernel_rfl))
  f301 := Tryz.func137.trans (congrArg some (by kernel_rfl))
  f328 := Tryz.func165.trans (congrArg some (by kernel_rfl))
  f329 := Tryz.func166.trans (congrArg some (by kernel_rfl))
  f330 := Tryz.func167.trans (congrArg some (by kernel_rfl))
  f331 := Tryz.func168.trans (congrArg some (by kernel_rfl))
  f332 := Tryz.func169.trans (congrArg some (by kernel_rfl))
  f343 := Tryz.func213.trans (congrArg some (by kernel_rfl))
  t0 := Tryz.underlying0
  a0 := Tryz.isAgg0
  z0 := Tryz.sizeOf0
  v0 := Tryz.zeroValue0
  t3 := Tryz.underlying3
  a3 := Tryz.isAgg3
  z3 := Tryz.sizeOf3
  v3 := Tryz.zeroValue3
  t4 := Tryz.underlying4
  a4 := Tryz.isAgg4
  z4 := Tryz.sizeOf4
  v4 := Tryz.zeroValue4
  t5 := Tryz.underlying5
  a5 := Tryz.isAgg5
  z5 := Tryz.sizeOf5
  v5 := Tryz.zeroValue5
  t9 := Tryz.underlying9
  a9 := Tryz.isAgg9
  z9 := Tryz.sizeOf9
  v9 := Tryz.zeroValue9
  t28 := Tryz.underlying60
  a28 := Tryz.isAgg60
  z28 := Tryz.sizeOf60
  v28 := Tryz.zeroValue60
  t46 := Tryz.underlying110
  a46 := Tryz.isAgg110
  z46 := Tryz.sizeOf110
  v46 := Tryz.zeroValue110
  t51 := Tryz.underlying165
  a51 := Tryz.isAgg165
  z51 := Tryz.sizeOf165
  v51 := Tryz.zeroValue165
  t53 := Tryz.underlying167
  a53 := Tryz.isAgg167
  z53 := Tryz.sizeOf167
  v53 := Tryz.zeroValue167
  t131 := Tryz.underlying162
  a131 := Tryz.isAgg162
  z131 := Tryz.sizeOf162
  v131 := Tryz.zeroValue162
  t182 := Tryz.underlying156
  a182 := Tryz.isAgg156
  z182 := Tryz.sizeOf156
  v182 := Tryz.zeroValue156
  t183 := Tryz.underlying157
  a183 := Tryz.isAgg157
  z183 := Tryz.sizeOf157
  v183 := Tryz.zeroValue157
  t218 := Tryz.underlying187
  a218 := Tryz.isAgg187
  z218 := Tryz.sizeOf187
  v218 := Tryz.zeroValue187
  t222 := Tryz.underlying152
  a222 := Tryz.isAgg152
  z222 := Tryz.sizeOf152
  v222 := Tryz.zeroValue152
  t228 := Tryz.underlying231
  a228 := Tryz.isAgg231
  z228 := Tryz.sizeOf231
  v228 := Tryz.zeroValue231
  t229 := Tryz.underlying122
  a229 := Tryz.isAgg122
  z229 := Tryz.sizeOf122
  v229 := Tryz.zeroValue122 }
open Go.Sort Go.RowKit in
theorem Tryz.slices_Sort_int (blk off cap : Nat) (zs : List Int) (w : World) (hH : Holds (Value.int .i64) w blk off zs.toArray) (hblk : blk < w.heap.size) (hsz : zs.length < 4611686018427387904) :
    Calls Tryz.prog 35 #[.slice (some ⟨blk, off, none⟩) zs.length cap] w fun e w' =>
      e = .returned (.tuple #[]) ∧ ∃ n os, w' = grow (putRow (Value.int .i64) (Sort.ahead w n) blk off (zs.mergeSort fun x y => decide (x ≤ y)).toArray) os := Any.slices_Sort_int Tryz.lays189 blk off cap zs w hH hblk hsz
def Tryz.laysNm220_ren : Go.Shelf.Ren := ⟨fun | 20 => 36 | n => n, fun | 22 => 60 | 3 => 3 | 4 => 4 | 0 => 0 | n => n, fun | n => n⟩
theorem Tryz.laysNm220 : Go.Proofs.Lays2.n20 Tryz.prog Tryz.laysNm220_ren := {
  mixed := by kernel_rfl
  f20 := Tryz.func36.trans (congrArg some (by kernel_rfl))
  t0 := Tryz.underlying0
  a0 := Tryz.isAgg0
  z0 := Tryz.sizeOf0
  v0 := Tryz.zeroValue0
  t3 := Tryz.underlying3
  a3 := Tryz.isAgg3
  z3 := Tryz.sizeOf3
  v3 := Tryz.zeroValue3
  t4 := Tryz.underlying4
  a4 := Tryz.isAgg4
  z4 := Tryz.sizeOf4
  v4 := Tryz.zeroValue4
  t22 := Tryz.underlying60
  a22 := Tryz.isAgg60
  z22 := Tryz.sizeOf60
  v22 := Tryz.zeroValue60
  i3 := by kernel_rfl }
open Go.RowKit Go.Lib Go.Sort in
/-- slices.Compact at []int: "Compact replaces consecutive runs of equal elements with a single copy. This is like the uniq command found on Unix. Compact modifies the contents of the slice s and returns the modified slice, which may have a smaller length. Compact zeroes the elements between the new length and the original length. The result preserves the nilness of s.": IT RETURNS THE SLICE CUT TO 'Lib.compact zs'; ITS CELLS HOLD 'Lib.compact zs', THEN ZERO VALUES up to the old length; all else is as it was, but for the count of draws. IN THE WORDS OF slices.Sort's CONTRACT ('Holds', 'putRow'): so the everyday 'slices.Sort(xs); xs = slices.Compact(xs)' goes from the one contract to the other. It asks 'zs.length ≤ cap' (every slice's: the reslicing 's[:k]' looks at it). Length 0, nil: '.._empty'. (LAID: no walk: one application.) -/
theorem Tryz.slices_Compact_int (blk off cap : Nat) (zs : List Int) (w : World) (hH : Holds (Value.int .i64) w blk off zs.toArray) (hsz : zs.length ≤ 9223372036854775807) (hcap : zs.length ≤ cap) :
    Calls Tryz.prog 36 #[.slice (some ⟨blk, off, none⟩) zs.length cap] w fun e w' => e = .returned (.slice (some ⟨blk, off, none⟩) (Lib.compact zs).length cap) ∧ ∃ q, w' = putRow (Value.int .i64) (Sort.ahead w q) blk off (Lib.compact zs ++ List.replicate (zs.length - (Lib.compact zs).length) 0).toArray := Any.slices_Compact_int Tryz.laysNm220 blk off cap zs w hH hsz hcap
open Go.RowKit Go.Sort in
/-- .. and plain. (LAID: no walk: one application.) -/
theorem Tryz.slices_Sort_int_none (p : Option Addr) (cap : Nat) (w : World) :
    Calls Tryz.prog 35 #[.slice p 0 cap] w fun e w' => e = .returned (.tuple #[]) ∧ w' = w := Any.slices_Sort_int_none Tryz.lays189 p cap w
end Go.Proofs
