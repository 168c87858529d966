-- Cut by a program of this session (wip/pr/pack.py) to what one claim needs.
import Derived.Test.YtdmbibjgiehboaaAShelf
import Derived.Test.YtdmbibjgiehboaaAWWords
import Derived.Test.YtdmbibjgiehboaaAWMore
import Derived.Test.YtdmbibjgiehboaaAWKept
import Derived.Test.YtdmbibjgiehboaaAWApart
namespace Go.Proofs.Ytdmbibjgiehboaa.X
open Go.RowKit Go.Sort Go.Proofs.YtdmbibjgiehboaaW.PrintWords Go.Proofs.YtdmbibjgiehboaaW.PrintLast Go.Proofs.YtdmbibjgiehboaaW.PrintMore
set_option linter.unusedVariables false
theorem xheap_putRow (w : World) (g off : Nat) (d : Array Int) (k : Nat) (hk : k ≠ g) : (putRow (Value.int .i64) w g off d).heap[k]? = w.heap[k]? := by
 unfold putRow mapBlock
 simp only [Array.getElem?_modify]
 rw [if_neg (fun e => hk e.symm)]
theorem xheap_putRow_at (w : World) (g off : Nat) (d : Array Int) (c : Array Value) (t : TypeId) (h : w.heap[g]? = some (.cells c t (0, 0))) :
  (putRow (Value.int .i64) w g off d).heap[g]? = some (.cells (putCells (Value.int .i64) off d c) t (0, 0)) := by
 unfold putRow mapBlock
 simp only [Array.getElem?_modify, if_pos, h, Option.map_some]
 rfl
theorem xput_take (d : Array Int) (c : Array Value) (n : Nat) (hn : d.size = n) (hc : n ≤ c.size) (m : Nat) (hm : m ≤ n) :
  (putCells (Value.int .i64) 0 d c).toList.take m = (d.toList.take m).map (Value.int .i64) := by
 apply List.ext_getElem?
 intro i
 simp only [List.getElem?_take, List.getElem?_map]
 by_cases hi : i < m
 ·rw [if_pos hi, if_pos hi]
  have h1 : i < c.size := by omega
  have h2 : i < d.size := by omega
  unfold putCells
  rw [Array.getElem?_toList, Array.getElem?_mapIdx, Array.getElem?_eq_getElem h1, Array.getElem?_toList, Array.getElem?_eq_getElem h2]
  simp only [Option.map_some, Nat.zero_le, Nat.zero_add, true_and, h2, if_true, Nat.sub_zero]
  rw [getElem!_pos d i h2]
 ·rw [if_neg hi, if_neg hi]; rfl
theorem xput_size (d : Array Int) (c : Array Value) (off : Nat) : (putCells (Value.int .i64) off d c).size = c.size := by unfold putCells; simp
theorem xown_nums {w : World} {base : Nat} {e : TypeId} {ok : Nat → Prop} {v : Value} {xs : List Int} (h : Kd.R (Kd.int .i64) e w base ok v xs) : w.ownsRow base e 1 v xs.length (nums .i64 xs) := by
 obtain ⟨_, inner, ho, hr⟩ := h
 have : inner = nums .i64 xs := by
  obtain ⟨hl, hj⟩ := hr
  apply List.ext_getElem?
  intro i
  have hl' : inner.length = xs.length := by rw [hl]; show xs.length * 1 = _; omega
  by_cases hi : i < xs.length
  ·have h1 : List.take 1 (List.drop (i * 1) inner) = [.int .i64 xs[i]] := hj i xs[i] (List.getElem?_eq_getElem hi)
   rw [Nat.mul_one] at h1
   have h2 := congrArg (fun l => l[0]?) h1
   simp only [List.getElem?_take, List.getElem?_drop] at h2
   simp only [nums, List.getElem?_map, List.getElem?_eq_getElem hi, Option.map_some]
   simpa using h2
  ·rw [List.getElem?_eq_none (by omega), List.getElem?_eq_none (by rw [nums_length]; omega)]
 subst this
 exact ho
theorem xwritten {w0 w : World} {P0_ : Nat → Prop} {g cap : Nat} {l0 : List Int} (hB : Below w0.heap.size w0 w)
  (ho0 : Kd.R (Kd.int .i64) 3 w w0.heap.size P0_ (.slice (some ⟨g, 0, none⟩) l0.length cap) l0) (d r : List Int) (hd : d.length = l0.length) (hr : r = d.take r.length) (hrl : r.length ≤ l0.length) (n : Nat) (os : Array Obj) :
  Kd.R (Kd.int .i64) 3 (grow (putRow (Value.int .i64) (Sort.ahead w n) g 0 d.toArray) os) w0.heap.size (fun k_ => (P0_ k_ ∨ w.heap.size ≤ k_)) (.slice (some ⟨g, 0, none⟩) r.length cap) r
  ∧ Below w0.heap.size w0 (grow (putRow (Value.int .i64) (Sort.ahead w n) g 0 d.toArray) os) ∧ Kept w (grow (putRow (Value.int .i64) (Sort.ahead w n) g 0 d.toArray) os) (fun k_ => P0_ k_) := by
 have hown := xown_nums ho0
 have hg := ho0.1 g rfl
 obtain ⟨hl, h2⟩ := hown
 rcases h2 with ⟨h2, _⟩ | ⟨g', cap', cur, e, hge, hh, hcap, hcap2, hcs, htk⟩
 ·cases h2
 ·injection e with e1 e2 e3
  injection e1 with e1
  injection e1 with e1
  subst e1; subst e3
  have hgs : g < w.heap.size := (Array.getElem?_eq_some_iff.1 hh).1
  have hsz : (putRow (Value.int .i64) (Sort.ahead w n) g 0 d.toArray).heap.size = w.heap.size := by simp [putRow, mapBlock, Sort.ahead]
  have hat : (putRow (Value.int .i64) (Sort.ahead w n) g 0 d.toArray).heap[g]? = some (.cells (putCells (Value.int .i64) 0 d.toArray cur) 3 (0, 0)) := xheap_putRow_at _ _ _ _ _ _ hh
  have hoth : ∀ k, k < w.heap.size → k ≠ g → (grow (putRow (Value.int .i64) (Sort.ahead w n) g 0 d.toArray) os).heap[k]? = w.heap[k]? := by
   intro k hk hkg
   unfold grow
   simp only
   rw [Array.getElem?_append_left (by rw [hsz]; exact hk), xheap_putRow _ _ _ _ _ hkg]
   rfl
  refine ⟨Kd.R_of_own ⟨by simp [encs], .inr ⟨g, cap, putCells (Value.int .i64) 0 d.toArray cur, rfl, hge, ?_, by omega, hcap2, by rw [xput_size]; exact hcs, ?_⟩⟩ (fun k hk => ?_), ?_, ?_⟩
  ·unfold grow
   simp only
   rw [Array.getElem?_append_left (by rw [hsz]; exact hgs)]
   exact hat
  ·rw [Nat.mul_one, xput_take d.toArray cur l0.length (by simpa using hd) (by omega) r.length hrl]
   show (List.take r.length d).map _ = r.map _
   rw [← hr]
  ·have : g = k := by simpa [Value.ownBlock] using hk
   subst this; exact .inl hg
  ·refine ⟨hB.os, hB.tape, hB.output, ?_, fun k hk => ?_⟩
   ·have := hB.size; unfold grow; simp only [Array.size_append]; rw [hsz]; omega
   ·have := hB.size; rw [hoth k (by omega) (by omega)]; exact hB.block k hk
  ·refine ⟨?_, fun k hk hn => ?_⟩
   ·unfold grow; simp only [Array.size_append]; rw [hsz]; omega
   ·exact hoth k hk (fun e => hn (by rw [e]; exact hg))
theorem xown_shape {w : World} {base : Nat} {ok : Nat → Prop} {v : Value} {xs : List Int} (h : Kd.R (Kd.int .i64) 3 w base ok v xs) :
  (v = .slice none 0 0 ∧ xs = []) ∨ ∃ g cap, v = .slice (some ⟨g, 0, none⟩) xs.length cap ∧ xs.length ≤ cap ∧ cap ≤ maxLen ∧ Holds (Value.int .i64) w g 0 xs.toArray ∧ g < w.heap.size := by
 have ho := xown_nums h
 obtain ⟨hl, h2⟩ := ho
 rcases h2 with ⟨h2, h3⟩ | ⟨g, cap, cur, e, hge, hh, hcap, hcap2, hcs, htk⟩
 ·exact .inl ⟨h2, List.eq_nil_of_length_eq_zero h3⟩
 ·refine .inr ⟨g, cap, e, hcap, hcap2, fun j hj => ?_, (Array.getElem?_eq_some_iff.1 hh).1⟩
  have hj' : j < xs.length := by simpa using hj
  have h1 : cur[j]? = some (.int .i64 xs[j]) := by
   have := congrArg (fun l => l[j]?) htk
   simp only [Nat.mul_one, List.getElem?_take, hj', if_true, nums, List.getElem?_map, List.getElem?_eq_getElem hj', Option.map_some, Array.getElem?_toList] at this
   exact this
  refine ⟨?_, ?_⟩
  ·simp only [World.cell?, hh, Nat.zero_add, Option.isSome_none, if_false, Bool.false_eq_true]
   rw [h1, getElem!_pos xs.toArray j hj]; rfl
  ·simp [World.frozen?, hh]
def slices_Sort_int_int.f (l0 : List Int) : Option (List Int) := if l0.length < 4611686018427387904 then some (l0.mergeSort fun x y => decide (x ≤ y)) else none
theorem slices_Sort_int_int.calls (P0_ : Nat → Prop) (u9000_ : Value) (l0 : List Int) (r : List Int) (w0 w : World) (hB : Below w0.heap.size w0 w) (ho0 : Kd.R (Kd.int .i64) 3 w w0.heap.size P0_ u9000_ l0) (h : slices_Sort_int_int.f l0 = some r) :
  Calls Try.prog 27 #[u9000_] w fun e w' => e = .returned (.tuple #[]) ∧ Kd.R (Kd.int .i64) 3 w' w0.heap.size (fun k_ => (P0_ k_ ∨ w.heap.size ≤ k_)) u9000_ r ∧ Below w0.heap.size w0 w' ∧ Kept w w' (fun k_ => P0_ k_) := by
 unfold slices_Sort_int_int.f at h
 by_cases hl : l0.length < 4611686018427387904
 ·rw [if_pos hl] at h
  obtain rfl := Option.some.inj h
  have hlen : (l0.mergeSort fun x y => decide (x ≤ y)).length = l0.length := List.length_mergeSort _
  rcases xown_shape ho0 with ⟨rfl, rfl⟩ | ⟨g, cap, rfl, hcap, hcap2, hH, hg⟩
  ·refine (Try.slices_Sort_int_none _ _ w).mono ?_
   rintro e w' ⟨rfl, rfl⟩
   exact ⟨rfl, by simpa using Kd.R_nil _ _ _ _ _, hB, Kept.refl _ _⟩
  ·refine (Try.slices_Sort_int g 0 cap l0 w hH hg hl).mono ?_
   rintro e w' ⟨rfl, n, os, rfl⟩
   have := xwritten hB ho0 (l0.mergeSort fun x y => decide (x ≤ y)) (l0.mergeSort fun x y => decide (x ≤ y)) hlen (by rw [List.take_length]) (by omega) n os
   rw [hlen] at this
   exact ⟨rfl, this⟩
 ·rw [if_neg hl] at h
  exact absurd h (by simp)
end Go.Proofs.Ytdmbibjgiehboaa.X
