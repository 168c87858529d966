-- Cut by a program of this session (wip/pr/pack.py) to what one claim needs.
import Derived.Shelf.Small.Bits
import Derived.Shelf.Small.Wraps
import Derived.Shelf.Strconv.Itoa0
import Derived.Shelf.Sort.Plain
import Derived.Ground.Names2Prog
import Derived.Shelf.Slices.SearchI
import Derived.Shelf.Slices.In.SortNone
import Derived.Ground.SlsfProg
import Derived.Shelf.SlSortCmp.Insertion
import Derived.Shelf.SlSortCmp.Insertion1
import Derived.Test.YtpcpllabegfdjaaProg
namespace Go.Proofs
open Go.Shelf
def Try.lays189_ren : Go.Shelf.Ren := ⟨fun | 189 => 26 | 125 => 36 | 257 => 35 | 128 => 50 | 129 => 51 | 294 => 41 | 295 => 42 | 296 => 43 | 297 => 44 | 298 => 45 | 299 => 46 | 216 => 47 | 300 => 48 | 301 => 49 | 328 => 53 | 329 => 54 | 330 => 55 | 331 => 56 | 332 => 57 | 215 => 28 | 343 => 59 | n => n, fun | 28 => 25 | 3 => 3 | 46 => 36 | 0 => 0 | 51 => 57 | 53 => 59 | 4 => 4 | 183 => 66 | 182 => 65 | 131 => 71 | 5 => 5 | 9 => 9 | 218 => 73 | 222 => 77 | 228 => 79 | 229 => 80 | n => n, fun | n => n⟩
theorem Try.lays189 : Go.Proofs.Lays.n189 Try.prog Try.lays189_ren := {
 mixed := by kernel_rfl
 f125 := Try.func36.trans (congrArg some (by kernel_rfl))
 f128 := Try.func50.trans (congrArg some (by kernel_rfl))
 f129 := Try.func51.trans (congrArg some (by kernel_rfl))
 f189 := Try.func26.trans (congrArg some (by kernel_rfl))
 f215 := Try.func28.trans (congrArg some (by kernel_rfl))
 f216 := Try.func47.trans (congrArg some (by kernel_rfl))
 f257 := Try.func35.trans (congrArg some (by kernel_rfl))
 f294 := Try.func41.trans (congrArg some (by kernel_rfl))
 f295 := Try.func42.trans (congrArg some (by kernel_rfl))
 f296 := Try.func43.trans (congrArg some (by kernel_rfl))
 f297 := Try.func44.trans (congrArg some (by kernel_rfl))
 f298 := Try.func45.trans (congrArg some (by kernel_rfl))
 f299 := Try.func46.trans (congrArg some (by kernel_rfl))
 f300 := Try.func48.trans (congrArg some (by kernel_rfl))
 f301 := Try.func49.trans (congrArg some (by kernel_rfl))
 f328 := Try.func53.trans (congrArg some (by kernel_rfl))
 f329 := Try.func54.trans (congrArg some (by kernel_rfl))
 f330 := Try.func55.trans (congrArg some (by kernel_rfl))
 f331 := Try.func56.trans (congrArg some (by kernel_rfl))
 f332 := Try.func57.trans (congrArg some (by kernel_rfl))
 f343 := Try.func59.trans (congrArg some (by kernel_rfl))
 t0 := Try.underlying0
 a0 := Try.isAgg0
 z0 := Try.sizeOf0
 v0 := Try.zeroValue0
 t3 := Try.underlying3
 a3 := Try.isAgg3
 z3 := Try.sizeOf3
 v3 := Try.zeroValue3
 t4 := Try.underlying4
 a4 := Try.isAgg4
 z4 := Try.sizeOf4
 v4 := Try.zeroValue4
 t5 := Try.underlying5
 a5 := Try.isAgg5
 z5 := Try.sizeOf5
 v5 := Try.zeroValue5
 t9 := Try.underlying9
 a9 := Try.isAgg9
 z9 := Try.sizeOf9
 v9 := Try.zeroValue9
 t28 := Try.underlying25
 a28 := Try.isAgg25
 z28 := Try.sizeOf25
 v28 := Try.zeroValue25
 t46 := Try.underlying36
 a46 := Try.isAgg36
 z46 := Try.sizeOf36
 v46 := Try.zeroValue36
 t51 := Try.underlying57
 a51 := Try.isAgg57
 z51 := Try.sizeOf57
 v51 := Try.zeroValue57
 t53 := Try.underlying59
 a53 := Try.isAgg59
 z53 := Try.sizeOf59
 v53 := Try.zeroValue59
 t131 := Try.underlying71
 a131 := Try.isAgg71
 z131 := Try.sizeOf71
 v131 := Try.zeroValue71
 t182 := Try.underlying65
 a182 := Try.isAgg65
 z182 := Try.sizeOf65
 v182 := Try.zeroValue65
 t183 := Try.underlying66
 a183 := Try.isAgg66
 z183 := Try.sizeOf66
 v183 := Try.zeroValue66
 t218 := Try.underlying73
 a218 := Try.isAgg73
 z218 := Try.sizeOf73
 v218 := Try.zeroValue73
 t222 := Try.underlying77
 a222 := Try.isAgg77
 z222 := Try.sizeOf77
 v222 := Try.zeroValue77
 t228 := Try.underlying79
 a228 := Try.isAgg79
 z228 := Try.sizeOf79
 v228 := Try.zeroValue79
 t229 := Try.underlying80
 a229 := Try.isAgg80
 z229 := Try.sizeOf80
 v229 := Try.zeroValue80 }
open Go.Sort Go.RowKit in
theorem Try.slices_Sort_int (blk off cap : Nat) (zs : List Int) (w : World) (hH : Holds (Value.int .i64) w blk off zs.toArray) (hblk : blk < w.heap.size) (hsz : zs.length < 4611686018427387904) :
  Calls Try.prog 26 #[.slice (some ⟨blk, off, none⟩) zs.length cap] w fun e w' =>
   e = .returned (.tuple #[]) ∧ ∃ n os, w' = grow (putRow (Value.int .i64) (Sort.ahead w n) blk off (zs.mergeSort fun x y => decide (x ≤ y)).toArray) os := Any.slices_Sort_int Try.lays189 blk off cap zs w hH hblk hsz
open Go.RowKit Go.Sort in
theorem Try.slices_Sort_int_none (p : Option Addr) (cap : Nat) (w : World) :
  Calls Try.prog 26 #[.slice p 0 cap] w fun e w' => e = .returned (.tuple #[]) ∧ w' = w := Any.slices_Sort_int_none Try.lays189 p cap w
def Try.laysSlF20_f37_ren : Go.Shelf.Ren := ⟨fun | 20 => 37 | n => n, fun | 24 => 3 | 22 => 25 | 3 => 3 | 25 => 46 | 4 => 4 | 0 => 0 | n => n, fun | n => n⟩
theorem Try.laysSlF20_f37 : Go.Proofs.SlLaysF.n20 Try.prog Try.laysSlF20_f37_ren := {
 mixed := by kernel_rfl
 f20 := ⟨Try.f37.name, by decide, Try.func37.trans (congrArg some (by kernel_rfl))⟩
 t0 := Try.underlying0
 a0 := Try.isAgg0
 z0 := Try.sizeOf0
 v0 := Try.zeroValue0
 t3 := Try.underlying3
 a3 := Try.isAgg3
 z3 := Try.sizeOf3
 v3 := Try.zeroValue3
 t4 := Try.underlying4
 a4 := Try.isAgg4
 z4 := Try.sizeOf4
 v4 := Try.zeroValue4
 t22 := Try.underlying25
 a22 := Try.isAgg25
 z22 := Try.sizeOf25
 v22 := Try.zeroValue25
 a24 := Try.isAgg3
 z24 := Try.sizeOf3
 t25 := Try.underlying46
 a25 := Try.isAgg46
 z25 := Try.sizeOf46
 v25 := Try.zeroValue46 }
open Go.RowKit Go.Lib Go.Sort in
theorem Try.insertionSortCmpFunc_s {α : Type} [Inhabited α] (enc : α → Value) (cf : α → α → Int) (g : Nat) (cb : Array Value) (blk off cap a b : Nat) (d0 d : Array α) (w0 w : World) (eg : ∀ args w, (callFunc g args).run Try.prog w = .ok (.enter g args) w) (hcmp : CmpLays1 Try.prog g cb enc cf blk off d0.size w0) (R : Row1 enc w0 blk off d0) (hs : d0.size = d.size) (S : SW enc w0 blk off d w) (hab : a ≤ b) (hb : b ≤ d.size) (hsz : d.size < 4611686018427387904) :
  Calls Try.prog 37 #[.slice (some ⟨blk, off, none⟩) d.size cap, .int .i64 a, .int .i64 b, .func (.func g) #[] cb] w fun e w' => e = .returned (.tuple #[]) ∧ SW enc w0 blk off (Sort.insertionSort (ltOf cf) d a b) w' := Any.insertionSortCmpFunc_s Try.laysSlF20_f37 enc cf g cb blk off cap a b d0 d w0 w eg hcmp R hs S hab hb hsz
end Go.Proofs
