-- Cut by a program of this session (wip/pr/pack.py) to what one claim needs.
import Derived.Shelf.Sort.Plain
import Derived.Shelf.Slices.Turned
import Derived.Ground.Names2Prog
import Derived.Shelf.Slices.Clone
import Derived.Shelf.Slices.CompactI
import Derived.Shelf.Slices.Cells
import Derived.Shelf.Slices.In.SortNone
import Derived.Test.YteedjokkfiglhaaProg
namespace Go.Proofs
open Go.Shelf
def Try.lays189_ren : Go.Shelf.Ren := ⟨fun | 189 => 17 | 125 => 27 | 257 => 26 | 128 => 37 | 129 => 38 | 294 => 28 | 295 => 29 | 296 => 30 | 297 => 31 | 298 => 32 | 299 => 33 | 216 => 34 | 300 => 35 | 301 => 36 | 328 => 39 | 329 => 40 | 330 => 41 | 331 => 42 | 332 => 43 | 215 => 44 | 343 => 45 | n => n, fun | 28 => 24 | 3 => 3 | 46 => 49 | 0 => 0 | 51 => 60 | 53 => 62 | 4 => 4 | 183 => 52 | 182 => 51 | 131 => 57 | 5 => 5 | 9 => 9 | 218 => 63 | 222 => 67 | 228 => 70 | 229 => 71 | n => n, fun | n => n⟩
theorem Try.lays189 : Go.Proofs.Lays.n189 Try.prog Try.lays189_ren := {
 mixed := by kernel_rfl
 f125 := Try.func27.trans (congrArg some (by kernel_rfl))
 f128 := Try.func37.trans (congrArg some (by kernel_rfl))
 f129 := Try.func38.trans (congrArg some (by kernel_rfl))
 f189 := Try.func17.trans (congrArg some (by kernel_rfl))
 f215 := Try.func44.trans (congrArg some (by kernel_rfl))
 f216 := Try.func34.trans (congrArg some (by kernel_rfl))
 f257 := Try.func26.trans (congrArg some (by kernel_rfl))
 f294 := Try.func28.trans (congrArg some (by kernel_rfl))
 f295 := Try.func29.trans (congrArg some (by kernel_rfl))
 f296 := Try.func30.trans (congrArg some (by kernel_rfl))
 f297 := Try.func31.trans (congrArg some (by kernel_rfl))
 f298 := Try.func32.trans (congrArg some (by kernel_rfl))
 f299 := Try.func33.trans (congrArg some (by kernel_rfl))
 f300 := Try.func35.trans (congrArg some (by kernel_rfl))
 f301 := Try.func36.trans (congrArg some (by kernel_rfl))
 f328 := Try.func39.trans (congrArg some (by kernel_rfl))
 f329 := Try.func40.trans (congrArg some (by kernel_rfl))
 f330 := Try.func41.trans (congrArg some (by kernel_rfl))
 f331 := Try.func42.trans (congrArg some (by kernel_rfl))
 f332 := Try.func43.trans (congrArg some (by kernel_rfl))
 f343 := Try.func45.trans (congrArg some (by kernel_rfl))
 t0 := Try.underlying0
 a0 := Try.isAgg0
 z0 := Try.sizeOf0
 v0 := Try.zeroValue0
 t3 := Try.underlying3
 a3 := Try.isAgg3
 z3 := Try.sizeOf3
 v3 := Try.zeroValue3
 t4 := Try.underlying4
 a4 := Try.isAgg4
 z4 := Try.sizeOf4
 v4 := Try.zeroValue4
 t5 := Try.underlying5
 a5 := Try.isAgg5
 z5 := Try.sizeOf5
 v5 := Try.zeroValue5
 t9 := Try.underlying9
 a9 := Try.isAgg9
 z9 := Try.sizeOf9
 v9 := Try.zeroValue9
 t28 := Try.underlying24
 a28 := Try.isAgg24
 z28 := Try.sizeOf24
 v28 := Try.zeroValue24
 t46 := Try.underlying49
 a46 := Try.isAgg49
 z46 := Try.sizeOf49
 v46 := Try.zeroValue49
 t51 := Try.underlying60
 a51 := Try.isAgg60
 z51 := Try.sizeOf60
 v51 := Try.zeroValue60
 t53 := Try.underlying62
 a53 := Try.isAgg62
 z53 := Try.sizeOf62
 v53 := Try.zeroValue62
 t131 := Try.underlying57
 a131 := Try.isAgg57
 z131 := Try.sizeOf57
 v131 := Try.zeroValue57
 t182 := Try.underlying51
 a182 := Try.isAgg51
 z182 := Try.sizeOf51
 v182 := Try.zeroValue51
 t183 := Try.underlying52
 a183 := Try.isAgg52
 z183 := Try.sizeOf52
 v183 := Try.zeroValue52
 t218 := Try.underlying63
 a218 := Try.isAgg63
 z218 := Try.sizeOf63
 v218 := Try.zeroValue63
 t222 := Try.underlying67
 a222 := Try.isAgg67
 z222 := Try.sizeOf67
 v222 := Try.zeroValue67
 t228 := Try.underlying70
 a228 := Try.isAgg70
 z228 := Try.sizeOf70
 v228 := Try.zeroValue70
 t229 := Try.underlying71
 a229 := Try.isAgg71
 z229 := Try.sizeOf71
 v229 := Try.zeroValue71 }
open Go.Sort Go.RowKit in
theorem Try.slices_Sort_int (blk off cap : Nat) (zs : List Int) (w : World) (hH : Holds (Value.int .i64) w blk off zs.toArray) (hblk : blk < w.heap.size) (hsz : zs.length < 4611686018427387904) :
  Calls Try.prog 17 #[.slice (some ⟨blk, off, none⟩) zs.length cap] w fun e w' =>
   e = .returned (.tuple #[]) ∧ ∃ n os, w' = grow (putRow (Value.int .i64) (Sort.ahead w n) blk off (zs.mergeSort fun x y => decide (x ≤ y)).toArray) os := Any.slices_Sort_int Try.lays189 blk off cap zs w hH hblk hsz
def Try.lays113_ren : Go.Shelf.Ren := ⟨fun | 113 => 20 | n => n, fun | 28 => 24 | 3 => 3 | 4 => 4 | 9 => 9 | 20 => 20 | 0 => 0 | n => n, fun | n => n⟩
theorem Try.lays113 : Go.Proofs.Lays.n113 Try.prog Try.lays113_ren := {
 mixed := by kernel_rfl
 f113 := Try.func20.trans (congrArg some (by kernel_rfl))
 t0 := Try.underlying0
 a0 := Try.isAgg0
 z0 := Try.sizeOf0
 v0 := Try.zeroValue0
 t3 := Try.underlying3
 a3 := Try.isAgg3
 z3 := Try.sizeOf3
 v3 := Try.zeroValue3
 t4 := Try.underlying4
 a4 := Try.isAgg4
 z4 := Try.sizeOf4
 v4 := Try.zeroValue4
 t9 := Try.underlying9
 a9 := Try.isAgg9
 z9 := Try.sizeOf9
 v9 := Try.zeroValue9
 t20 := Try.underlying20
 a20 := Try.isAgg20
 z20 := Try.sizeOf20
 v20 := Try.zeroValue20
 t28 := Try.underlying24
 a28 := Try.isAgg24
 z28 := Try.sizeOf24
 v28 := Try.zeroValue24 }
open Go.Lib in
theorem Try.slices_Max_int (b off n c : Nat) (zs : List Int) (w : World) (hn : 0 < n) (hz : n ≤ zs.length) (hbig : n ≤ 9223372036854775807) (hc : ∀ j, j < zs.length → w.cell? ⟨b, off + j, none⟩ = some (.int .i64 (zs.getD j 0))) :
  Calls Try.prog 20 #[.slice (some ⟨b, off, none⟩) n c] w fun e w' => e = .returned (.int .i64 (Lib.maxOf (zs.take n))) ∧ w' = w := Any.slices_Max_int Try.lays113 b off n c zs w hn hz hbig hc
def Try.lays114_ren : Go.Shelf.Ren := ⟨fun | 114 => 21 | n => n, fun | 28 => 24 | 3 => 3 | 4 => 4 | 9 => 9 | 20 => 20 | 0 => 0 | n => n, fun | n => n⟩
theorem Try.lays114 : Go.Proofs.Lays.n114 Try.prog Try.lays114_ren := {
 mixed := by kernel_rfl
 f114 := Try.func21.trans (congrArg some (by kernel_rfl))
 t0 := Try.underlying0
 a0 := Try.isAgg0
 z0 := Try.sizeOf0
 v0 := Try.zeroValue0
 t3 := Try.underlying3
 a3 := Try.isAgg3
 z3 := Try.sizeOf3
 v3 := Try.zeroValue3
 t4 := Try.underlying4
 a4 := Try.isAgg4
 z4 := Try.sizeOf4
 v4 := Try.zeroValue4
 t9 := Try.underlying9
 a9 := Try.isAgg9
 z9 := Try.sizeOf9
 v9 := Try.zeroValue9
 t20 := Try.underlying20
 a20 := Try.isAgg20
 z20 := Try.sizeOf20
 v20 := Try.zeroValue20
 t28 := Try.underlying24
 a28 := Try.isAgg24
 z28 := Try.sizeOf24
 v28 := Try.zeroValue24 }
open Go.Lib in
theorem Try.slices_Min_int (b off n c : Nat) (zs : List Int) (w : World) (hn : 0 < n) (hz : n ≤ zs.length) (hbig : n ≤ 9223372036854775807) (hc : ∀ j, j < zs.length → w.cell? ⟨b, off + j, none⟩ = some (.int .i64 (zs.getD j 0))) :
  Calls Try.prog 21 #[.slice (some ⟨b, off, none⟩) n c] w fun e w' => e = .returned (.int .i64 (Lib.minOf (zs.take n))) ∧ w' = w := Any.slices_Min_int Try.lays114 b off n c zs w hn hz hbig hc
def Try.laysNm215_ren : Go.Shelf.Ren := ⟨fun | 15 => 23 | n => n, fun | 22 => 24 | 3 => 3 | 4 => 4 | n => n, fun | n => n⟩
theorem Try.laysNm215 : Go.Proofs.Lays2.n15 Try.prog Try.laysNm215_ren := {
 mixed := by kernel_rfl
 f15 := Try.func23.trans (congrArg some (by kernel_rfl))
 t3 := Try.underlying3
 a3 := Try.isAgg3
 z3 := Try.sizeOf3
 v3 := Try.zeroValue3
 t4 := Try.underlying4
 a4 := Try.isAgg4
 z4 := Try.sizeOf4
 v4 := Try.zeroValue4
 t22 := Try.underlying24
 a22 := Try.isAgg24
 z22 := Try.sizeOf24
 v22 := Try.zeroValue24
 i3 := by kernel_rfl }
open Go.RowKit Go.Lib in
theorem Try.slices_Clone_int (b off n c : Nat) (zs : List Int) (w : World) (hz : n ≤ zs.length) (hbig : n * 8 ≤ 140737488355328) (hc : ∀ j, j < zs.length → w.cell? ⟨b, off + j, none⟩ = some (.int .i64 (zs.getD j 0))) :
  Calls Try.prog 23 #[.slice (some ⟨b, off, none⟩) n c] w fun e w' => ∃ v', e = .returned v' ∧ w'.ownsRow w.heap.size 3 1 v' n ((zs.take n).map (Value.int .i64)) ∧ v' ≠ .slice none 0 0 ∧ Below w.heap.size w w' := Any.slices_Clone_int Try.laysNm215 b off n c zs w hz hbig hc
open Go.RowKit Go.Lib in
theorem Try.slices_Clone_int_nil (n c : Nat) (w : World) :
  Calls Try.prog 23 #[.slice none n c] w fun e w' => e = .returned (.slice none 0 0) ∧ w' = w := Any.slices_Clone_int_nil Try.laysNm215 n c w
open Go.RowKit Go.Lib in
theorem Try.slices_Clone_int_zero (a : Addr) (c : Nat) (w : World) :
  Calls Try.prog 23 #[.slice (some a) 0 c] w fun e w' => ∃ v', e = .returned v' ∧ w'.ownsRow w.heap.size 3 1 v' 0 [] ∧ v' ≠ .slice none 0 0 ∧ Below w.heap.size w w' := Any.slices_Clone_int_zero Try.laysNm215 a c w
def Try.laysNm220_ren : Go.Shelf.Ren := ⟨fun | 20 => 24 | n => n, fun | 22 => 24 | 3 => 3 | 4 => 4 | 0 => 0 | n => n, fun | n => n⟩
theorem Try.laysNm220 : Go.Proofs.Lays2.n20 Try.prog Try.laysNm220_ren := {
 mixed := by kernel_rfl
 f20 := Try.func24.trans (congrArg some (by kernel_rfl))
 t0 := Try.underlying0
 a0 := Try.isAgg0
 z0 := Try.sizeOf0
 v0 := Try.zeroValue0
 t3 := Try.underlying3
 a3 := Try.isAgg3
 z3 := Try.sizeOf3
 v3 := Try.zeroValue3
 t4 := Try.underlying4
 a4 := Try.isAgg4
 z4 := Try.sizeOf4
 v4 := Try.zeroValue4
 t22 := Try.underlying24
 a22 := Try.isAgg24
 z22 := Try.sizeOf24
 v22 := Try.zeroValue24
 i3 := by kernel_rfl }
open Go.RowKit Go.Lib Go.Sort in
theorem Try.slices_Compact_int (blk off cap : Nat) (zs : List Int) (w : World) (hH : Holds (Value.int .i64) w blk off zs.toArray) (hsz : zs.length ≤ 9223372036854775807) (hcap : zs.length ≤ cap) :
  Calls Try.prog 24 #[.slice (some ⟨blk, off, none⟩) zs.length cap] w fun e w' => e = .returned (.slice (some ⟨blk, off, none⟩) (Lib.compact zs).length cap) ∧ ∃ q, w' = putRow (Value.int .i64) (Sort.ahead w q) blk off (Lib.compact zs ++ List.replicate (zs.length - (Lib.compact zs).length) 0).toArray := Any.slices_Compact_int Try.laysNm220 blk off cap zs w hH hsz hcap
open Go.RowKit Go.Lib Go.Sort in
theorem Try.slices_Compact_int_empty (a : Option Addr) (cap : Nat) (w : World) :
  Calls Try.prog 24 #[.slice a 0 cap] w fun e w' => e = .returned (.slice a 0 cap) ∧ w' = w := Any.slices_Compact_int_empty Try.laysNm220 a cap w
open Go.RowKit Go.Sort in
theorem Try.slices_Sort_int_none (p : Option Addr) (cap : Nat) (w : World) :
  Calls Try.prog 17 #[.slice p 0 cap] w fun e w' => e = .returned (.tuple #[]) ∧ w' = w := Any.slices_Sort_int_none Try.lays189 p cap w
end Go.Proofs
