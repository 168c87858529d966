-- Cut by a program of this session (wip/pr/pack.py) to what one claim needs.
import Derived.Shelf.Small.Bits
import Derived.Shelf.Small.Wraps
import Derived.Shelf.Strconv.Itoa0
import Derived.Shelf.Sort.Plain
import Derived.Shelf.Slices.Turned
import Derived.Ground.Names2Prog
import Derived.Shelf.Slices.SearchI
import Derived.Shelf.Slices.In.SortNone
import Derived.Shelf.SlicesQ.IndexFunc
import Derived.Ground.SlgfProg
import Derived.Shelf.SlSortCmp.WholeK
import Derived.Ground.SlsfProg
import Derived.Test.YtdmbibjgiehboaaProg
namespace Go.Proofs
open Go.Shelf
def Try.lays215_ren : Go.Shelf.Ren := ⟨fun | 215 => 37 | n => n, fun | 3 => 3 | 4 => 4 | n => n, fun | n => n⟩
theorem Try.lays215 : Go.Proofs.Lays.n215 Try.prog Try.lays215_ren := {
 mixed := by kernel_rfl
 f215 := Try.func37.trans (congrArg some (by kernel_rfl))
 t3 := Try.underlying3
 a3 := Try.isAgg3
 z3 := Try.sizeOf3
 v3 := Try.zeroValue3
 t4 := Try.underlying4
 a4 := Try.isAgg4
 z4 := Try.sizeOf4
 v4 := Try.zeroValue4 }
open Go.RowKit in
theorem Try.cmp_isNaN_int (x : Int) (w : World) :
  Calls Try.prog 37 #[.int .i64 x] w fun e w' => e = .returned (.bool false) ∧ w' = w := Any.cmp_isNaN_int Try.lays215 x w
def Try.lays122_ren : Go.Shelf.Ren := ⟨fun | 122 => 23 | 215 => 37 | n => n, fun | 3 => 3 | 4 => 4 | n => n, fun | n => n⟩
theorem Try.lays122 : Go.Proofs.Lays.n122 Try.prog Try.lays122_ren := {
 mixed := by kernel_rfl
 f122 := Try.func23.trans (congrArg some (by kernel_rfl))
 f215 := Try.func37.trans (congrArg some (by kernel_rfl))
 t3 := Try.underlying3
 a3 := Try.isAgg3
 z3 := Try.sizeOf3
 v3 := Try.zeroValue3
 t4 := Try.underlying4
 a4 := Try.isAgg4
 z4 := Try.sizeOf4
 v4 := Try.zeroValue4 }
open Go.RowKit in
theorem Try.cmp_Compare_int (x y : Int) (w : World) :
  Calls Try.prog 23 #[.int .i64 x, .int .i64 y] w fun e w' => e = .returned (.int .i64 (Lib.compareInt x y)) ∧ w' = w := Any.cmp_Compare_int Try.lays122 x y w
def Try.lays189_ren : Go.Shelf.Ren := ⟨fun | 189 => 27 | 125 => 36 | 257 => 38 | 128 => 49 | 129 => 50 | 294 => 51 | 295 => 52 | 296 => 53 | 297 => 54 | 298 => 55 | 299 => 56 | 216 => 57 | 300 => 58 | 301 => 59 | 328 => 65 | 329 => 61 | 330 => 62 | 331 => 66 | 332 => 67 | 215 => 37 | 343 => 69 | n => n, fun | 28 => 26 | 3 => 3 | 46 => 66 | 0 => 0 | 51 => 79 | 53 => 81 | 4 => 4 | 183 => 72 | 182 => 71 | 131 => 76 | 5 => 5 | 9 => 9 | 218 => 88 | 222 => 92 | 228 => 96 | 229 => 97 | n => n, fun | n => n⟩
theorem Try.lays189 : Go.Proofs.Lays.n189 Try.prog Try.lays189_ren := {
 mixed := by kernel_rfl
 f125 := Try.func36.trans (congrArg some (by kernel_rfl))
 f128 := Try.func49.trans (congrArg some (by kernel_rfl))
 f129 := Try.func50.trans (congrArg some (by kernel_rfl))
 f189 := Try.func27.trans (congrArg some (by kernel_rfl))
 f215 := Try.func37.trans (congrArg some (by kernel_rfl))
 f216 := Try.func57.trans (congrArg some (by kernel_rfl))
 f257 := Try.func38.trans (congrArg some (by kernel_rfl))
 f294 := Try.func51.trans (congrArg some (by kernel_rfl))
 f295 := Try.func52.trans (congrArg some (by kernel_rfl))
 f296 := Try.func53.trans (congrArg some (by kernel_rfl))
 f297 := Try.func54.trans (congrArg some (by kernel_rfl))
 f298 := Try.func55.trans (congrArg some (by kernel_rfl))
 f299 := Try.func56.trans (congrArg some (by kernel_rfl))
 f300 := Try.func58.trans (congrArg some (by kernel_rfl))
 f301 := Try.func59.trans (congrArg some (by kernel_rfl))
 f328 := Try.func65.trans (congrArg some (by kernel_rfl))
 f329 := Try.func61.trans (congrArg some (by kernel_rfl))
 f330 := Try.func62.trans (congrArg some (by kernel_rfl))
 f331 := Try.func66.trans (congrArg some (by kernel_rfl))
 f332 := Try.func67.trans (congrArg some (by kernel_rfl))
 f343 := Try.func69.trans (congrArg some (by kernel_rfl))
 t0 := Try.underlying0
 a0 := Try.isAgg0
 z0 := Try.sizeOf0
 v0 := Try.zeroValue0
 t3 := Try.underlying3
 a3 := Try.isAgg3
 z3 := Try.sizeOf3
 v3 := Try.zeroValue3
 t4 := Try.underlying4
 a4 := Try.isAgg4
 z4 := Try.sizeOf4
 v4 := Try.zeroValue4
 t5 := Try.underlying5
 a5 := Try.isAgg5
 z5 := Try.sizeOf5
 v5 := Try.zeroValue5
 t9 := Try.underlying9
 a9 := Try.isAgg9
 z9 := Try.sizeOf9
 v9 := Try.zeroValue9
 t28 := Try.underlying26
 a28 := Try.isAgg26
 z28 := Try.sizeOf26
 v28 := Try.zeroValue26
 t46 := Try.underlying66
 a46 := Try.isAgg66
 z46 := Try.sizeOf66
 v46 := Try.zeroValue66
 t51 := Try.underlying79
 a51 := Try.isAgg79
 z51 := Try.sizeOf79
 v51 := Try.zeroValue79
 t53 := Try.underlying81
 a53 := Try.isAgg81
 z53 := Try.sizeOf81
 v53 := Try.zeroValue81
 t131 := Try.underlying76
 a131 := Try.isAgg76
 z131 := Try.sizeOf76
 v131 := Try.zeroValue76
 t182 := Try.underlying71
 a182 := Try.isAgg71
 z182 := Try.sizeOf71
 v182 := Try.zeroValue71
 t183 := Try.underlying72
 a183 := Try.isAgg72
 z183 := Try.sizeOf72
 v183 := Try.zeroValue72
 t218 := Try.underlying88
 a218 := Try.isAgg88
 z218 := Try.sizeOf88
 v218 := Try.zeroValue88
 t222 := Try.underlying92
 a222 := Try.isAgg92
 z222 := Try.sizeOf92
 v222 := Try.zeroValue92
 t228 := Try.underlying96
 a228 := Try.isAgg96
 z228 := Try.sizeOf96
 v228 := Try.zeroValue96
 t229 := Try.underlying97
 a229 := Try.isAgg97
 z229 := Try.sizeOf97
 v229 := Try.zeroValue97 }
open Go.Sort Go.RowKit in
theorem Try.slices_Sort_int (blk off cap : Nat) (zs : List Int) (w : World) (hH : Holds (Value.int .i64) w blk off zs.toArray) (hblk : blk < w.heap.size) (hsz : zs.length < 4611686018427387904) :
  Calls Try.prog 27 #[.slice (some ⟨blk, off, none⟩) zs.length cap] w fun e w' =>
   e = .returned (.tuple #[]) ∧ ∃ n os, w' = grow (putRow (Value.int .i64) (Sort.ahead w n) blk off (zs.mergeSort fun x y => decide (x ≤ y)).toArray) os := Any.slices_Sort_int Try.lays189 blk off cap zs w hH hblk hsz
open Go.RowKit Go.Sort in
theorem Try.slices_Sort_int_none (p : Option Addr) (cap : Nat) (w : World) :
  Calls Try.prog 27 #[.slice p 0 cap] w fun e w' => e = .returned (.tuple #[]) ∧ w' = w := Any.slices_Sort_int_none Try.lays189 p cap w
def Try.containsFd_ren : Go.Shelf.Ren := ⟨fun | 8 => 31 | 6 => 40 | n => n, fun | 22 => 22 | 23 => 36 | 25 => 60 | 4 => 4 | 3 => 3 | 0 => 0 | n => n, fun | n => n⟩
theorem Try.containsFd : Go.Proofs.SlLaysH0.n8 Try.prog Try.containsFd_ren := {
 mixed := by kernel_rfl
 f6 := ⟨Try.f40.name, by decide, Try.func40.trans (congrArg some (by kernel_rfl))⟩
 f8 := ⟨Try.f31.name, by decide, Try.func31.trans (congrArg some (by kernel_rfl))⟩
 t0 := Try.underlying0
 a0 := Try.isAgg0
 z0 := Try.sizeOf0
 v0 := Try.zeroValue0
 t3 := Try.underlying3
 a3 := Try.isAgg3
 z3 := Try.sizeOf3
 v3 := Try.zeroValue3
 t4 := Try.underlying4
 a4 := Try.isAgg4
 z4 := Try.sizeOf4
 v4 := Try.zeroValue4
 t22 := Try.underlying22
 a22 := Try.isAgg22
 z22 := Try.sizeOf22
 v22 := Try.zeroValue22
 t25 := Try.underlying60
 a25 := Try.isAgg60
 z25 := Try.sizeOf60
 v25 := Try.zeroValue60 }
def Try.sortSp_ren : Go.Shelf.Ren := ⟨fun | 6 => 21 | 15 => 36 | 14 => 35 | 28 => 49 | 29 => 50 | 20 => 41 | 21 => 42 | 22 => 43 | 23 => 44 | 24 => 45 | 25 => 46 | 26 => 47 | 27 => 48 | 46 => 60 | 47 => 61 | 48 => 62 | 49 => 63 | 50 => 64 | 57 => 68 | n => n, fun | 22 => 25 | 24 => 40 | 25 => 55 | 3 => 3 | 39 => 66 | 0 => 0 | 53 => 79 | 55 => 81 | 4 => 4 | 46 => 72 | 45 => 71 | 50 => 76 | 5 => 5 | 9 => 9 | 66 => 88 | 70 => 92 | 76 => 96 | 77 => 97 | n => n, fun | n => n⟩
theorem Try.sortSp : Go.Proofs.SlLaysF0.n6 Try.prog Try.sortSp_ren := {
 mixed := by kernel_rfl
 f6 := ⟨Try.f21.name, by decide, Try.func21.trans (congrArg some (by kernel_rfl))⟩
 f14 := ⟨Try.f35.name, by decide, Try.func35.trans (congrArg some (by kernel_rfl))⟩
 f15 := Try.func36.trans (congrArg some (by kernel_rfl))
 f20 := ⟨Try.f41.name, by decide, Try.func41.trans (congrArg some (by kernel_rfl))⟩
 f21 := ⟨Try.f42.name, by decide, Try.func42.trans (congrArg some (by kernel_rfl))⟩
 f22 := ⟨Try.f43.name, by decide, Try.func43.trans (congrArg some (by kernel_rfl))⟩
 f23 := ⟨Try.f44.name, by decide, Try.func44.trans (congrArg some (by kernel_rfl))⟩
 f24 := ⟨Try.f45.name, by decide, Try.func45.trans (congrArg some (by kernel_rfl))⟩
 f25 := ⟨Try.f46.name, by decide, Try.func46.trans (congrArg some (by kernel_rfl))⟩
 f26 := ⟨Try.f47.name, by decide, Try.func47.trans (congrArg some (by kernel_rfl))⟩
 f27 := ⟨Try.f48.name, by decide, Try.func48.trans (congrArg some (by kernel_rfl))⟩
 f28 := Try.func49.trans (congrArg some (by kernel_rfl))
 f29 := Try.func50.trans (congrArg some (by kernel_rfl))
 f46 := ⟨Try.f60.name, by decide, Try.func60.trans (congrArg some (by kernel_rfl))⟩
 f47 := Try.func61.trans (congrArg some (by kernel_rfl))
 f48 := Try.func62.trans (congrArg some (by kernel_rfl))
 f49 := ⟨Try.f63.name, by decide, Try.func63.trans (congrArg some (by kernel_rfl))⟩
 f50 := ⟨Try.f64.name, by decide, Try.func64.trans (congrArg some (by kernel_rfl))⟩
 f57 := ⟨Try.f68.name, by decide, Try.func68.trans (congrArg some (by kernel_rfl))⟩
 t0 := Try.underlying0
 a0 := Try.isAgg0
 z0 := Try.sizeOf0
 v0 := Try.zeroValue0
 t3 := Try.underlying3
 a3 := Try.isAgg3
 z3 := Try.sizeOf3
 v3 := Try.zeroValue3
 t4 := Try.underlying4
 a4 := Try.isAgg4
 z4 := Try.sizeOf4
 v4 := Try.zeroValue4
 t5 := Try.underlying5
 a5 := Try.isAgg5
 z5 := Try.sizeOf5
 v5 := Try.zeroValue5
 t9 := Try.underlying9
 a9 := Try.isAgg9
 z9 := Try.sizeOf9
 v9 := Try.zeroValue9
 t22 := Try.underlying25
 a22 := Try.isAgg25
 z22 := Try.sizeOf25
 v22 := Try.zeroValue25
 t25 := Try.underlying55
 a25 := Try.isAgg55
 z25 := Try.sizeOf55
 v25 := Try.zeroValue55
 t39 := Try.underlying66
 a39 := Try.isAgg66
 z39 := Try.sizeOf66
 v39 := Try.zeroValue66
 t45 := Try.underlying71
 a45 := Try.isAgg71
 z45 := Try.sizeOf71
 v45 := Try.zeroValue71
 t46 := Try.underlying72
 a46 := Try.isAgg72
 z46 := Try.sizeOf72
 v46 := Try.zeroValue72
 t50 := Try.underlying76
 a50 := Try.isAgg76
 z50 := Try.sizeOf76
 v50 := Try.zeroValue76
 t53 := Try.underlying79
 a53 := Try.isAgg79
 z53 := Try.sizeOf79
 v53 := Try.zeroValue79
 t55 := Try.underlying81
 a55 := Try.isAgg81
 z55 := Try.sizeOf81
 v55 := Try.zeroValue81
 t66 := Try.underlying88
 a66 := Try.isAgg88
 z66 := Try.sizeOf88
 v66 := Try.zeroValue88
 t70 := Try.underlying92
 a70 := Try.isAgg92
 z70 := Try.sizeOf92
 v70 := Try.zeroValue92
 t76 := Try.underlying96
 a76 := Try.isAgg96
 z76 := Try.sizeOf96
 v76 := Try.zeroValue96
 t77 := Try.underlying97
 a77 := Try.isAgg97
 z77 := Try.sizeOf97
 v77 := Try.zeroValue97 }
end Go.Proofs
