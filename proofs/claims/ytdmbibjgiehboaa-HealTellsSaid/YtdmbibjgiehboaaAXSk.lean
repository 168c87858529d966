-- Cut by a program of this session (wip/pr/pack.py) to what one claim needs.
import Derived.Shelf.SlSortCmp.WholeK
import Derived.Test.YtdmbibjgiehboaaAShelf
import Derived.Test.YtdmbibjgiehboaaAWWords
import Derived.Test.YtdmbibjgiehboaaAWMore
import Derived.Test.YtdmbibjgiehboaaAWKept
namespace Go.Proofs.Ytdmbibjgiehboaa.X
open Go.RowKit Go.Sort Go.Proofs.YtdmbibjgiehboaaW.PrintWords Go.Proofs.YtdmbibjgiehboaaW.PrintLast Go.Proofs.YtdmbibjgiehboaaW.PrintMore
set_option linter.unusedVariables false
set_option linter.unusedSimpArgs false
set_option linter.unusedSectionVars false
section
variable {α : Type} [Inhabited α] (enc : α → List Value) (k : Nat) (hk : 0 < k) (hlen : ∀ x, (enc x).length = k)
include hk hlen
theorem flat_at : ∀ (l : List α) (t : Nat), t < l.length * k → (l.flatMap enc)[t]? = some ((enc l[t / k]!)[t % k]!)
 | [], t, h => by simp at h
 | x :: l, t, h => by
  rw [List.flatMap_cons]
  by_cases ht : t < k
  ·rw [List.getElem?_append_left (by rw [hlen]; exact ht), Nat.div_eq_of_lt ht, Nat.mod_eq_of_lt ht]
   have h1 : t < (enc x).length := by rw [hlen]; exact ht
   rw [List.getElem?_eq_getElem h1]
   show _ = some ((enc x)[t]!)
   rw [getElem!_pos (enc x) t h1]
  ·rw [List.getElem?_append_right (by rw [hlen]; omega), hlen]
   have hl : t - k < l.length * k := by
    rw [List.length_cons, Nat.succ_mul] at h; omega
   have ih := flat_at l (t - k) hl
   rw [ih]
   have e : t = (t - k) + k := by omega
   have e1 : t / k = (t - k) / k + 1 := by
    have := Nat.add_div_right (t - k) hk
    rw [← e] at this
    exact this
   have e2 : t % k = (t - k) % k := by
    have := Nat.add_mod_right (t - k) k
    rw [← e] at this
    exact this
   rw [e1, e2]
   rfl
theorem flat_list (l : List α) : (flatK enc k l.toArray).toList = l.flatMap enc := by
 have hl : (l.flatMap enc).length = l.length * k := by
  induction l with
  | nil => simp
  | cons x l ih => rw [List.flatMap_cons, List.length_append, ih, hlen, List.length_cons, Nat.succ_mul]; omega
 apply List.ext_getElem?
 intro t
 by_cases ht : t < l.length * k
 ·rw [flat_at enc k hk hlen l t ht]
  rw [Array.getElem?_toList, Array.getElem?_eq_getElem (by simpa using ht), ← getElem!_pos (flatK enc k l.toArray) t (by simpa using ht), get_flatK enc k l.toArray t (by simpa using ht)]
  have hd : t / k < l.length := Nat.div_lt_of_lt_mul (by rw [Nat.mul_comm]; exact ht)
  rw [getElem!_pos l.toArray (t / k) (by simpa using hd), getElem!_pos l (t / k) hd]
  simp
 ·rw [List.getElem?_eq_none (by simp; omega), List.getElem?_eq_none (by omega)]
end
theorem putF_toList (F cur : Array Value) (n : Nat) (hF : F.size = n) (hn : n ≤ cur.size) : (putCells id 0 F cur).toList.take n = F.toList := by
 apply List.ext_getElem?
 intro i
 simp only [List.getElem?_take]
 by_cases hi : i < n
 ·rw [if_pos hi]
  have h1 : i < cur.size := by omega
  have h2 : i < F.size := by omega
  unfold putCells
  rw [Array.getElem?_toList, Array.getElem?_mapIdx, Array.getElem?_eq_getElem h1, Array.getElem?_toList, Array.getElem?_eq_getElem h2]
  simp only [Option.map_some, Nat.zero_le, Nat.zero_add, true_and, h2, if_true, Nat.sub_zero, id]
  rw [getElem!_pos F i h2]
 ·rw [if_neg hi, List.getElem?_eq_none (by simp; omega)]
theorem putF_size (F cur : Array Value) (off : Nat) : (putCells id off F cur).size = cur.size := by unfold putCells; simp
theorem heap_putF (w : World) (g off : Nat) (F : Array Value) (k : Nat) (hk : k ≠ g) : (putRow id w g off F).heap[k]? = w.heap[k]? := by
 unfold putRow mapBlock
 simp only [Array.getElem?_modify]
 rw [if_neg (fun e => hk e.symm)]
theorem heap_putF_at (w : World) (g off : Nat) (F : Array Value) (c : Array Value) (t : TypeId) (h : w.heap[g]? = some (.cells c t (0, 0))) :
  (putRow id w g off F).heap[g]? = some (.cells (putCells id off F c) t (0, 0)) := by
 unfold putRow mapBlock
 simp only [Array.getElem?_modify, if_pos, h, Option.map_some]
 rfl
section
variable {α : Type} [Inhabited α] {d : Kd α} {enc : α → List Value} (hlen : ∀ x, (enc x).length = d.sz) (hk : 0 < d.sz) (hopen : ∀ {w : World} {base : Nat} {ok : Nat → Prop} {x : α} {cs : List Value}, d.M w base ok x cs → cs = enc x) (hmk : ∀ (w : World) (base : Nat) (ok : Nat → Prop) (x : α), d.M w base ok x (enc x))
include hlen hopen
theorem rowK_cells {e base : Nat} {w : World} {ok : Nat → Prop} {v : Value} {xs : List α} (h : d.R e w base ok v xs) : w.ownsRow base e d.sz v xs.length (xs.flatMap enc) := by
 obtain ⟨_, inner, ho, hl, hj⟩ := h
 have hfl : ∀ l : List α, (l.flatMap enc).length = l.length * d.sz := by
  intro l
  induction l with
  | nil => simp
  | cons x l ih => rw [List.flatMap_cons, List.length_append, ih, hlen, List.length_cons, Nat.succ_mul]; omega
 have key : ∀ (ys zs : List α) (cs : List Value), (ys ++ zs) = xs → ys.length * d.sz + cs.length = inner.length → inner.drop (ys.length * d.sz) = cs → cs = zs.flatMap enc := by
  intro ys zs
  induction zs generalizing ys with
  | nil =>
   intro cs h1 h2 h3
   rw [List.append_nil] at h1
   subst h1
   have : cs.length = 0 := by omega
   simpa using List.eq_nil_of_length_eq_zero this
  | cons z zs ih =>
   intro cs h1 h2 h3
   have hz : xs[ys.length]? = some z := by rw [← h1]; simp
   have h4 := hopen (hj ys.length z hz)
   rw [h3] at h4
   have h5 := ih (ys ++ [z]) (cs.drop d.sz) (by rw [← h1]; simp) (by
    have hxl : xs.length = ys.length + (zs.length + 1) := by rw [← h1]; simp
    have hc : (cs.take d.sz).length = d.sz := by rw [h4, hlen]
    rw [List.length_take] at hc
    rw [List.length_append, List.length_singleton, List.length_drop, Nat.succ_mul]; omega) (by
    rw [List.length_append, List.length_singleton, Nat.succ_mul, ← List.drop_drop, h3])
   rw [List.flatMap_cons, ← h4, ← h5, List.take_append_drop]
 have := key [] xs inner rfl (by simp) (by simp)
 rw [this] at ho
 exact ho
include hmk hk
theorem rowK_mk {e base : Nat} {w : World} {ok : Nat → Prop} {v : Value} {xs : List α} (ho : w.ownsRow base e d.sz v xs.length (xs.flatMap enc)) (hok : ∀ k, v.ownBlock = some k → ok k) : d.R e w base ok v xs := by
 refine ⟨hok, xs.flatMap enc, ho, ?_, fun j p hj => ?_⟩
 ·induction xs with
  | nil => simp
  | cons x l ih =>
   have : ∀ l : List α, (l.flatMap enc).length = l.length * d.sz := by
    intro l
    induction l with
    | nil => simp
    | cons x l ih => rw [List.flatMap_cons, List.length_append, ih, hlen, List.length_cons, Nat.succ_mul]; omega
   exact this _
 ·have e : ((xs.flatMap enc).drop (j * d.sz)).take d.sz = enc p := by
   obtain ⟨hl, hp⟩ := List.getElem?_eq_some_iff.1 hj
   apply List.ext_getElem?
   intro i
   rw [List.getElem?_take, List.getElem?_drop]
   by_cases hi : i < d.sz
   ·rw [if_pos hi]
    have hlt : j * d.sz + i < xs.length * d.sz := by
     have : (j + 1) * d.sz ≤ xs.length * d.sz := Nat.mul_le_mul_right _ hl
     rw [Nat.succ_mul] at this; omega
    rw [flat_at enc d.sz hk hlen xs _ hlt]
    have e1 : (j * d.sz + i) / d.sz = j := by rw [Nat.mul_comm, Nat.mul_add_div hk, Nat.div_eq_of_lt hi, Nat.add_zero]
    have e2 : (j * d.sz + i) % d.sz = i := by rw [Nat.mul_comm, Nat.mul_add_mod, Nat.mod_eq_of_lt hi]
    rw [e1, e2, getElem!_pos xs j hl, hp]
    have h1 : i < (enc p).length := by rw [hlen]; exact hi
    rw [getElem!_pos (enc p) i h1, List.getElem?_eq_getElem h1]
   ·rw [if_neg hi, List.getElem?_eq_none (by rw [hlen]; omega)]
  rw [e]
  exact hmk _ _ _ _
theorem rowK_sorted {e : Nat} {w0 w : World} {ok : Nat → Prop} {g cap : Nat} {xs ys : List α} (hB : Below w0.heap.size w0 w) (h : d.R e w w0.heap.size ok (.slice (some ⟨g, 0, none⟩) xs.length cap) xs) (hy : ys.length = xs.length) (n : Nat) (os : Array Obj) :
  d.R e (sortWorldK enc d.sz w g 0 n ys.toArray os) w0.heap.size ok (.slice (some ⟨g, 0, none⟩) xs.length cap) ys ∧ Below w0.heap.size w0 (sortWorldK enc d.sz w g 0 n ys.toArray os) ∧ w.grownBy (sortWorldK enc d.sz w g 0 n ys.toArray os) (some g) := by
 have hown := rowK_cells hlen hopen h
 have hge : w0.heap.size ≤ g := Kd.R_base h g (by simp [Value.ownBlock])
 have hokg : ok g := h.1 g (by simp [Value.ownBlock])
 obtain ⟨hl, h2⟩ := hown
 rcases h2 with ⟨h2, _⟩ | ⟨g', cap', cur, e1, hge', hh, hcap, hcap2, hcs, htk⟩
 ·cases h2
 ·injection e1 with e1 e2 e3
  injection e1 with e1
  injection e1 with e1
  subst e1; subst e3
  have hgs : g < w.heap.size := (Array.getElem?_eq_some_iff.1 hh).1
  have hFl : (flatK enc d.sz ys.toArray).size = xs.length * d.sz := by simp [hy]
  have hsz : (putRowK enc d.sz (Sort.ahead w n) g 0 ys.toArray).heap.size = w.heap.size := by simp [putRowK, putRow, mapBlock, Sort.ahead]
  have hat : (putRowK enc d.sz (Sort.ahead w n) g 0 ys.toArray).heap[g]? = some (.cells (putCells id 0 (flatK enc d.sz ys.toArray) cur) e (0, 0)) := heap_putF_at _ _ _ _ _ _ hh
  have hoth : ∀ k, k < w.heap.size → k ≠ g → (sortWorldK enc d.sz w g 0 n ys.toArray os).heap[k]? = w.heap[k]? := by
   intro k hk hkg
   unfold sortWorldK grow
   simp only
   rw [Array.getElem?_append_left (by rw [hsz]; exact hk)]
   unfold putRowK
   rw [heap_putF _ _ _ _ _ hkg]
   rfl
  have hnc : xs.length * d.sz ≤ cur.size := by rw [hcs]; exact Nat.mul_le_mul_right _ (by omega)
  refine ⟨rowK_mk hlen hk hopen hmk ?_ (fun k hk => ?_), ?_, ?_⟩
  ·refine ⟨?_, .inr ⟨g, cap, putCells id 0 (flatK enc d.sz ys.toArray) cur, by rw [hy], hge, ?_, by omega, hcap2, by rw [putF_size]; exact hcs, ?_⟩⟩
   ·rw [← flat_list enc d.sz hk hlen ys, Array.length_toList, hFl, hy]
   ·unfold sortWorldK grow
    simp only
    rw [Array.getElem?_append_left (by rw [hsz]; exact hgs)]
    exact hat
   ·rw [hy, putF_toList _ _ _ hFl hnc]
    exact flat_list enc d.sz hk hlen ys
  ·have : g = k := by simpa [Value.ownBlock] using hk
   subst this; exact hokg
  ·refine ⟨hB.os, hB.tape, hB.output, ?_, fun k hk => ?_⟩
   ·have := hB.size; unfold sortWorldK grow; simp only [Array.size_append]; rw [hsz]; omega
   ·have := hB.size; rw [hoth k (by omega) (by omega)]; exact hB.block k hk
  ·refine ⟨rfl, rfl, rfl, ?_, fun k hk hn => hoth k hk (fun e => hn (by rw [e]))⟩
   unfold sortWorldK grow; simp only [Array.size_append]; rw [hsz]; omega
theorem rowK_holds {e : Nat} {base : Nat} {w : World} {ok : Nat → Prop} {g cap : Nat} {xs : List α} (h : d.R e w base ok (.slice (some ⟨g, 0, none⟩) xs.length cap) xs) : HoldsK enc d.sz w g 0 xs.toArray ∧ g < w.heap.size := by
 have hown := rowK_cells hlen hopen h
 obtain ⟨hl, h2⟩ := hown
 rcases h2 with ⟨h2, _⟩ | ⟨g', cap', cur, e1, hge', hh, hcap, hcap2, hcs, htk⟩
 ·cases h2
 ·injection e1 with e1 e2 e3
  injection e1 with e1
  injection e1 with e1
  subst e1; subst e3
  refine ⟨fun j hj => ?_, (Array.getElem?_eq_some_iff.1 hh).1⟩
  have hj' : j < xs.length * d.sz := by simpa using hj
  have h1 : cur[j]? = some ((flatK enc d.sz xs.toArray)[j]!) := by
   have h3 := congrArg (fun l => l[j]?) htk
   simp only [List.getElem?_take, hj', if_true, Array.getElem?_toList] at h3
   rw [h3, ← flat_list enc d.sz hk hlen xs, Array.getElem?_toList, Array.getElem?_eq_getElem hj, getElem!_pos _ j hj]
  refine ⟨?_, ?_⟩
  ·simp only [World.cell?, hh, Nat.zero_add, Option.isSome_none, if_false, Bool.false_eq_true]
   rw [h1]; rfl
  ·simp [World.frozen?, hh]
end
end Go.Proofs.Ytdmbibjgiehboaa.X
