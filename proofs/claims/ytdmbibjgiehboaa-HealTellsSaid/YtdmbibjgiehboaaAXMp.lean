-- Cut by a program of this session (wip/pr/pack.py) to what one claim needs.
import Derived.Maps.RangeWalk
import Derived.Maps.Own
import Derived.Maps.OwnSet
import Derived.Test.YtdmbibjgiehboaaAWWords
namespace Go.Proofs.Ytdmbibjgiehboaa.Mp
open Go.RowKit Go.ChangeMaps Go.MapKept Go.Proofs.YtdmbibjgiehboaaW.PrintWords
set_option linter.unusedVariables false
set_option linter.unusedSimpArgs false
def get (k : Int) : List (Int × Value) → Option Value
 | [] => none
 | p :: m => if k = p.1 then some p.2 else get k m
def put (k : Int) (v : Value) : List (Int × Value) → List (Int × Value)
 | [] => [(k, v)]
 | p :: m => if k = p.1 then (k, v) :: m else p :: put k v m
def fnd (k : Int) : List (Int × Value) → Nat → Option (Nat × Value)
 | [], _ => none
 | p :: m, i => if k = p.1 then some (i, p.2) else fnd k m (i + 1)
theorem fnd_get (k : Int) : ∀ (m : List (Int × Value)) (i : Nat), (fnd k m i).map (·.2) = get k m
 | [], _ => rfl
 | p :: m, i => by
  rw [fnd, get]
  by_cases h : k = p.1
  ·rw [if_pos h, if_pos h]; rfl
  ·rw [if_neg h, if_neg h]; exact fnd_get k m (i + 1)
theorem get_put (k k' : Int) (v : Value) : ∀ m : List (Int × Value), get k' (put k v m) = if k' = k then some v else get k' m
 | [] => by rw [put, get, get, get]
 | p :: m => by
  rw [put]
  by_cases h : k = p.1
  ·rw [if_pos h, get, get]
   by_cases h2 : k' = k
   ·rw [if_pos h2, if_pos h2]
   ·rw [if_neg h2, if_neg h2, if_neg (by omega)]
  ·rw [if_neg h, get, get]
   by_cases h2 : k' = p.1
   ·rw [if_pos h2, if_pos h2, if_neg (by omega)]
   ·rw [if_neg h2, if_neg h2]; exact get_put k k' v m
theorem put_new (k : Int) (v : Value) : ∀ m : List (Int × Value), (∀ p, p ∈ m → p.1 ≠ k) → put k v m = m ++ [(k, v)]
 | [], _ => rfl
 | p :: m, h => by
  rw [put, if_neg (fun e => h p List.mem_cons_self e.symm), put_new k v m (fun q hq => h q (List.mem_cons_of_mem _ hq))]; rfl
theorem fnd_none (k : Int) : ∀ (m : List (Int × Value)) (i : Nat), fnd k m i = none → ∀ p, p ∈ m → p.1 ≠ k
 | [], _, _, p, hp => by cases hp
 | q :: m, i, h, p, hp => by
  rw [fnd] at h
  by_cases e : k = q.1
  ·rw [if_pos e] at h; cases h
  ·rw [if_neg e] at h
   rcases List.mem_cons.1 hp with rfl | hp
   ·exact fun e' => e e'.symm
   ·exact fnd_none k m (i + 1) h p hp
theorem fnd_some (k : Int) (v : Value) : ∀ (m : List (Int × Value)) (i j : Nat) (x : Value), fnd k m i = some (j, x) → ∃ pre post, m = pre ++ (k, x) :: post ∧ j = i + pre.length ∧ put k v m = pre ++ (k, v) :: post
 | [], _, _, _, h => by cases h
 | q :: m, i, j, x, h => by
  rw [fnd] at h
  by_cases e : k = q.1
  ·rw [if_pos e] at h
   have h := Option.some.inj h
   refine ⟨[], m, ?_, ?_, ?_⟩
   ·have e2 : x = q.2 := (congrArg Prod.snd h).symm
    rw [e2, e]; rfl
   ·have : i = j := congrArg Prod.fst h
    simp [this]
   ·rw [put, if_pos e]; rfl
  ·rw [if_neg e] at h
   obtain ⟨pre, post, h1, h2, h3⟩ := fnd_some k v m (i + 1) j x h
   refine ⟨q :: pre, post, by rw [h1]; rfl, by rw [h2, List.length_cons]; omega, ?_⟩
   rw [put, if_neg e, h3]; rfl
theorem put_keys (k : Int) (v : Value) (m : List (Int × Value)) : (put k v m).map (·.1) = if (get k m).isSome then m.map (·.1) else m.map (·.1) ++ [k] := by
 cases hf : fnd k m 0 with
 | none =>
  have hg := fnd_get k m 0
  rw [hf] at hg
  rw [← hg, put_new k v m (fnd_none k m 0 hf)]
  simp
 | some jx =>
  obtain ⟨j, x⟩ := jx
  have hg := fnd_get k m 0
  rw [hf] at hg
  obtain ⟨pre, post, h1, _, h3⟩ := fnd_some k v m 0 j x hf
  rw [← hg, h3, h1]
  simp
theorem get_none (k : Int) (m : List (Int × Value)) : get k m = none ↔ k ∉ m.map (·.1) := by
 induction m with
 | nil => simp [get]
 | cons p m ih =>
  rw [get]
  by_cases h : k = p.1
  ·rw [if_pos h]; simp [h]
  ·rw [if_neg h, ih]; simp [h]
theorem put_nodup (k : Int) (v : Value) {m : List (Int × Value)} (h : (m.map (·.1)).Nodup) : ((put k v m).map (·.1)).Nodup := by
 rw [put_keys]
 by_cases hs : (get k m).isSome = true
 ·rw [if_pos hs]; exact h
 ·rw [if_neg hs]
  have hn : get k m = none := by simpa using hs
  rw [get_none] at hn
  rw [List.nodup_append]
  exact ⟨h, by simp, fun a ha b hb => by
   have : b = k := by simpa using hb
   subst this
   intro e; subst e; exact hn ha⟩
def Ents (es : Array MapEntry) (m : List (Int × Value)) : Prop := es.toList.map (fun e => (e.key, e.val)) = m.map (fun p => (Value.int .i64 p.1, p.2))
def IMap (w : World) (b : Nat) (m : List (Int × Value)) : Prop :=
 ∃ es clock, w.heap[b]? = some (.map es clock) ∧ Ents es m ∧ (m.map (·.1)).Nodup ∧ (es.toList.map (·.born)).Nodup ∧ ∀ x ∈ es.toList, x.born < clock
theorem IMap.made (w : World) : IMap (w.alloc (.map #[] 0)) w.heap.size [] :=
 ⟨#[], 0, (MapKept.heap_alloc w _).1, rfl, by simp, by simp, by simp⟩
theorem IMap.lt {w : World} {b : Nat} {m : List (Int × Value)} (h : IMap w b m) : b < w.heap.size := by
 obtain ⟨es, clock, hb, _⟩ := h
 exact (Array.getElem?_eq_some_iff.1 hb).1
theorem IMap.of_heap {w w' : World} {b : Nat} {m : List (Int × Value)} (h : IMap w b m) (e : w'.heap[b]? = w.heap[b]?) : IMap w' b m := by
 obtain ⟨es, clock, hb, r⟩ := h
 exact ⟨es, clock, e.trans hb, r⟩
theorem IMap.below {w w' : World} {b : Nat} {m : List (Int × Value)} (h : IMap w b m) (hb : Below w.heap.size w w') : IMap w' b m := h.of_heap (hb.block b h.lt)
theorem IMap.alloc {w : World} {b : Nat} {m : List (Int × Value)} (h : IMap w b m) (o : Obj) : IMap (w.alloc o) b m := h.of_heap (Below.heap_alloc w o b h.lt)
theorem IMap.drew {w : World} {b : Nat} {m : List (Int × Value)} (h : IMap w b m) : IMap w.drew b m := h
theorem IMap.drewN {w : World} {b : Nat} {m : List (Int × Value)} (h : IMap w b m) (n : Nat) : IMap (w.drewN n) b m := h
theorem IMap.setCell {w : World} {b : Nat} {m : List (Int × Value)} (h : IMap w b m) {a : Addr} (ha : b ≠ a.block) (u : Value) : IMap (w.setCell a u) b m := h.of_heap (Below.heap_setCell w a u b ha)
theorem IMap.nodup {w : World} {b : Nat} {m : List (Int × Value)} (h : IMap w b m) : (m.map (·.1)).Nodup := by
 obtain ⟨_, _, _, _, h, _⟩ := h
 exact h
theorem IMap.grown {w w' : World} {b : Nat} {m : List (Int × Value)} (h : IMap w b m) {row : Option Nat} (hg : w.grownBy w' row) (hne : some b ≠ row) : IMap w' b m := h.of_heap (hg.block b h.lt hne)
theorem find_now (k : Int) : ∀ (es : List MapEntry) (m : List (Int × Value)) (i : Nat), es.map (fun e => (e.key, e.val)) = m.map (fun p => (Value.int .i64 p.1, p.2)) → Instr.findNow (.int .i64) (.int .i64 k) es i = some (fnd k m i)
 | [], [], i, _ => rfl
 | [], _ :: _, _, h => by simp at h
 | _ :: _, [], _, h => by simp at h
 | e :: es, p :: m, i, h => by
  simp only [List.map_cons, List.cons.injEq, Prod.mk.injEq] at h
  obtain ⟨⟨h1, h2⟩, h3⟩ := h
  have ih := find_now k es m (i + 1) h3
  rw [Instr.findNow, fnd, h1]
  simp only [Instr.sameNow, if_true]
  by_cases e : k = p.1
  ·rw [if_pos e]; simp [e, h2]
  ·rw [if_neg e]
   have : (k == p.1) = false := by simpa using e
   simp only [this]
   exact ih
section
variable {P : Program} {t kt e : TypeId} (ht : P.underlying t = some (.map kt e)) (hk : P.underlying kt = some (.int .i64))
include hk
omit ht in
theorem check_run (w : World) (k : Int) (c : Bool) : (Instr.checkKey c 10000 kt (.int .i64 k)).run P w = .ok () w := by
 rw [show (10000 : Nat) = 9999 + 1 from rfl, Instr.checkKey]
 simp [run_underlying hk, Result.andThen, Sem.run]
include ht
theorem lookup_run {w : World} {b : Nat} {m : List (Int × Value)} (h : IMap w b m) {z : Value} (hz : (zeroValue e).run P w = .ok z w) (k : Int) (c : Bool) :
  (Instr.lookup t (.map (some b)) (.int .i64 k) c).run P w = .ok (if c then .tuple #[(get k m).getD z, .bool (get k m).isSome] else (get k m).getD z) w := by
 obtain ⟨es, clock, hb, hE, _⟩ := h
 have hf := find_now k es.toList m 0 hE
 have hg := fnd_get k m 0
 cases hfn : fnd k m 0 with
 | none =>
  rw [hfn] at hf hg
  rw [← hg]
  simp [Instr.lookup, run_underlying ht, run_underlying hk, MapKept.run_getObj_map hb, check_run hk, Instr.findKey, hf, hz, Result.andThen, Sem.run]
 | some jx =>
  obtain ⟨j, x⟩ := jx
  rw [hfn] at hf hg
  rw [← hg]
  simp [Instr.lookup, run_underlying ht, run_underlying hk, MapKept.run_getObj_map hb, check_run hk, Instr.findKey, hf, Result.andThen, Sem.run]
theorem update_run {w : World} {b : Nat} {m : List (Int × Value)} (h : IMap w b m) (k : Int) (v : Value) :
  ∃ w', (Instr.mapUpdate t (.map (some b)) (.int .i64 k) v).run P w = .ok () w' ∧ IMap w' b (put k v m) ∧ w.grownBy w' (some b) ∧ w'.heap.size = w.heap.size := by
 obtain ⟨es, clock, hb, hE, hN, hB, hC⟩ := h
 have hf := find_now k es.toList m 0 hE
 have hlen : es.toList.length = m.length := by have := congrArg List.length hE; simpa using this
 have key : ∀ es' clock', Ents es' (put k v m) → (es'.toList.map (·.born)).Nodup → (∀ x ∈ es'.toList, x.born < clock') → IMap (setBlock w b (.map es' clock')) b (put k v m) ∧ w.grownBy (setBlock w b (.map es' clock')) (some b) ∧ (setBlock w b (.map es' clock')).heap.size = w.heap.size := by
  intro es' clock' q1 q2 q3
  exact ⟨⟨es', clock', heap_setBlock_same hb _, q1, put_nodup k v hN, q2, q3⟩, ⟨rfl, rfl, rfl, by simp [setBlock], fun i _ hi => heap_setBlock_other hb _ (fun e => hi (by rw [e]))⟩, by simp [setBlock]⟩
 cases hfn : fnd k m 0 with
 | none =>
  rw [hfn] at hf
  refine ⟨setBlock w b (.map (es.push ⟨.int .i64 k, v, clock⟩) (clock + 1)), ?_, key _ _ ?_ ?_ ?_⟩
  ·simp [Instr.mapUpdate, run_underlying ht, run_underlying hk, MapKept.run_getObj_map hb, check_run hk, Instr.findKey, hf, MapKept.run_setObj_map _ hb, Result.andThen, Sem.run, setBlock]
  ·show List.map _ _ = _
   rw [put_new k v m (fnd_none k m 0 hfn), Array.toList_push, List.map_append, List.map_append, hE]; rfl
  ·rw [Array.toList_push, List.map_append, List.nodup_append]
   refine ⟨hB, by simp, fun a ha c hc => ?_⟩
   obtain ⟨x, hx, rfl⟩ := List.mem_map.1 ha
   have : c = clock := by simpa using hc
   have := hC x hx
   omega
  ·intro x hx
   rw [Array.toList_push] at hx
   rcases List.mem_append.1 hx with hx | hx
   ·have := hC x hx; omega
   ·have : x = ⟨.int .i64 k, v, clock⟩ := by simpa using hx
    subst this
    exact Nat.lt_succ_self _
 | some jx =>
  obtain ⟨j, x⟩ := jx
  rw [hfn] at hf
  obtain ⟨pre, post, h1, h2, h3⟩ := fnd_some k v m 0 j x hfn
  rw [Nat.zero_add] at h2
  have hj : j < es.toList.length := by rw [hlen, h1, h2]; simp
  have hat : (es.toList[j]'hj).key = .int .i64 k := by
   have := congrArg (fun l => l[j]?) hE
   simp only [List.getElem?_map, List.getElem?_eq_getElem hj, Option.map_some] at this
   have hpm : (pre ++ (k, x) :: post)[j]? = some (k, x) := by rw [h2, List.getElem?_append_right (Nat.le_refl _), Nat.sub_self]; rfl
   rw [h1, hpm] at this
   simp at this
   exact this.1
  have hja0 : es.toList[j]? = some (es.toList[j]'hj) := List.getElem?_eq_getElem hj
  have hja : es[j]? = some (es.toList[j]'hj) := by rw [← Array.getElem?_toList]; exact hja0
  obtain ⟨e0, he0⟩ : ∃ e0, e0 = es.toList[j]'hj := ⟨_, rfl⟩
  rw [← he0] at hat hja hja0
  have hlist : (es.modify j fun e => { e with key := .int .i64 k, val := v }).toList = es.toList.set j { e0 with key := .int .i64 k, val := v } := by
   rw [Array.toList_modify, modify_eq_set _ _ _ _ hja0]
  refine ⟨setBlock w b (.map (es.modify j fun e => { e with key := .int .i64 k, val := v }) clock), ?_, key _ _ ?_ ?_ ?_⟩
  ·have hsame : Instr.sameBits 10000 (.int .i64 k) (.int .i64 k) = true := by simp [Instr.sameBits]
   have hkt : (Instr.keyThatStays (.int .i64 k) (.int .i64 k)).run P w = .ok (.int .i64 k) w := by unfold Instr.keyThatStays; rw [if_pos hsame]; rfl
   simp only [Instr.mapUpdate, Sem.run_bind, run_underlying ht, run_underlying hk, MapKept.run_getObj_map hb, check_run hk, Instr.findKey, hf, hja, Option.map_some, Option.getD_some, hat, hkt, Result.andThen, Sem.run_pure]
   exact MapKept.run_setObj_map _ hb
  ·show List.map _ _ = _
   rw [h3, hlist, List.map_set, hE, h1, List.map_append, List.map_append, h2, List.set_append_right _ _ (by simp)]
   simp
  ·rw [hlist, List.map_set]
   have : e0.born = (es.toList.map (·.born))[j]'(by simpa using hj) := by rw [List.getElem_map, ← he0]
   show ((es.toList.map (·.born)).set j e0.born).Nodup
   rw [this, List.set_getElem_self]
   exact hB
  ·intro y hy
   rw [hlist] at hy
   rcases List.mem_or_eq_of_mem_set hy with hy | rfl
   ·exact hC y hy
   ·exact hC e0 (List.mem_of_getElem? hja0)
end
def Iter (w : World) (r b : Nat) (m left : List (Int × Value)) : Prop :=
 ∃ es clock seen, w.heap[r]? = some (.mapIter (some b) clock seen clock) ∧ w.heap[b]? = some (.map es clock) ∧ Ents es m ∧ (m.map (·.1)).Nodup ∧ (es.toList.map (·.born)).Nodup ∧ (∀ x ∈ es.toList, x.born < clock) ∧
  (leftOf es seen).toList.map (fun e => (e.key, e.val)) = left.map (fun p => (Value.int .i64 p.1, p.2))
theorem Iter.owns {w : World} {r b : Nat} {m left : List (Int × Value)} (h : Iter w r b m left) : IMap w b m := by
 obtain ⟨es, clock, seen, _, hb, h1, h2, h3, h4, _⟩ := h
 exact ⟨es, clock, hb, h1, h2, h3, h4⟩
theorem Iter.lt {w : World} {r b : Nat} {m left : List (Int × Value)} (h : Iter w r b m left) : r < w.heap.size := by
 obtain ⟨es, clock, seen, hr, _⟩ := h
 exact (Array.getElem?_eq_some_iff.1 hr).1
theorem Iter.ne {w : World} {r b : Nat} {m left : List (Int × Value)} (h : Iter w r b m left) : r ≠ b := by
 obtain ⟨es, clock, seen, hr, hb, _⟩ := h
 rintro rfl
 rw [hr] at hb
 cases hb
theorem Iter.of_heap {w w' : World} {r b : Nat} {m left : List (Int × Value)} (h : Iter w r b m left) (e1 : w'.heap[r]? = w.heap[r]?) (e2 : w'.heap[b]? = w.heap[b]?) : Iter w' r b m left := by
 obtain ⟨es, clock, seen, hr, hb, q⟩ := h
 exact ⟨es, clock, seen, e1.trans hr, e2.trans hb, q⟩
theorem Iter.below {w w' : World} {r b : Nat} {m left : List (Int × Value)} (h : Iter w r b m left) (hb : Below w.heap.size w w') : Iter w' r b m left := h.of_heap (hb.block r h.lt) (hb.block b h.owns.lt)
theorem Iter.alloc {w : World} {r b : Nat} {m left : List (Int × Value)} (h : Iter w r b m left) (o : Obj) : Iter (w.alloc o) r b m left := h.of_heap (Below.heap_alloc w o r h.lt) (Below.heap_alloc w o b h.owns.lt)
theorem Iter.drew {w : World} {r b : Nat} {m left : List (Int × Value)} (h : Iter w r b m left) : Iter w.drew r b m left := h
theorem Iter.drewN {w : World} {r b : Nat} {m left : List (Int × Value)} (h : Iter w r b m left) (n : Nat) : Iter (w.drewN n) r b m left := h
theorem Iter.setCell {w : World} {r b : Nat} {m left : List (Int × Value)} (h : Iter w r b m left) {a : Addr} (hr : r ≠ a.block) (ha : b ≠ a.block) (u : Value) : Iter (w.setCell a u) r b m left := h.of_heap (Below.heap_setCell w a u r hr) (Below.heap_setCell w a u b ha)
theorem Iter.grown {w w' : World} {r b : Nat} {m left : List (Int × Value)} (h : Iter w r b m left) {row : Option Nat} (hg : w.grownBy w' row) (h1 : some r ≠ row) (h2 : some b ≠ row) : Iter w' r b m left := h.of_heap (hg.block r h.lt h1) (hg.block b h.owns.lt h2)
theorem range_run {P : Program} {t kt e : TypeId} (ht : P.underlying t = some (.map kt e)) {w : World} {b : Nat} {m : List (Int × Value)} (h : IMap w b m) :
  ∃ w', (Instr.range t (.map (some b))).run P w = .ok (.pointer (some ⟨w.heap.size, 0, none⟩)) w' ∧ Iter w' w.heap.size b m m ∧ w.grownBy w' none ∧ w'.heap.size = w.heap.size + 1 := by
 have hlt := h.lt
 obtain ⟨es, clock, hb, h1, h2, h3, h4⟩ := h
 refine ⟨_, run_range_map w t kt e b es clock ht hb, ⟨es, clock, #[], (MapKept.heap_alloc w _).1, ((MapKept.heap_alloc w _).2 b hlt).trans hb, h1, h2, h3, h4, ?_⟩, World.grownBy_alloc w _ none, by simp⟩
 have e : leftOf es #[] = es := Array.filter_eq_self.2 (fun x _ => by simp)
 rw [e]
 exact h1
theorem next_run {P : Program} {w : World} {r b : Nat} {m left : List (Int × Value)} (h : Iter w r b m left) (ty : TypeId) :
  (left = [] ∧ (Instr.next (.pointer (some ⟨r, 0, none⟩)) false ty).run P w = .ok (.tuple #[.bool false]) w) ∨
  ∃ p l1 l3 w', left = l1 ++ p :: l3 ∧ (Instr.next (.pointer (some ⟨r, 0, none⟩)) false ty).run P w = .ok (.tuple #[.bool true, .int .i64 p.1, p.2]) w' ∧ Iter w' r b m (l1 ++ l3) ∧ w.grownBy w' (some r) ∧ w'.heap.size = w.heap.size ∧
   (Instr.entry (.pointer (some ⟨r, 0, none⟩))).run P w' = .ok (.tuple #[.int .i64 p.1, p.2]) w' := by
 have hne := h.ne
 have hrlt := h.lt
 obtain ⟨es, clock, seen, hr, hb, h1, h2, h3, h4, h5⟩ := h
 have hlen : (leftOf es seen).size = left.length := by have := congrArg List.length h5; simpa using this
 rcases run_next_at (P := P) w ty r b clock clock seen es clock hr hb h4 (Nat.le_refl _) with ⟨h0, hrun⟩ | ⟨e, he, w1, hw1, hrun⟩
 ·exact .inl ⟨List.eq_nil_of_length_eq_zero (by omega), hrun⟩
 ·right
  obtain ⟨pre, post, hpp⟩ := List.append_of_mem he
  have hl : left.map (fun p => (Value.int .i64 p.1, p.2)) = pre.map (fun e => (e.key, e.val)) ++ (e.key, e.val) :: post.map (fun e => (e.key, e.val)) := by
   rw [← h5, hpp, List.map_append, List.map_cons]
  obtain ⟨l1, l2, e0, e1, e2⟩ := List.map_eq_append_iff.1 hl
  obtain ⟨p, l3, e3, e4, e5⟩ := List.map_eq_cons_iff.1 e2
  obtain ⟨k1, k2⟩ := Prod.mk.inj e4
  have heM : e ∈ es.toList := by unfold leftOf at he; simp at he ⊢; exact he.1
  have hw1h : w1.heap = w.heap := by rcases hw1 with rfl | rfl <;> rfl
  have hw1r : w1.heap[r]? = some (.mapIter (some b) clock seen clock) := by rw [hw1h]; exact hr
  have hnew : (setBlock w1 r (.mapIter (some b) clock (seen.push e.born) clock)).heap[r]? = some (.mapIter (some b) clock (seen.push e.born) clock) := by
   simp [setBlock, hw1h, hrlt]
  have hbb : (setBlock w1 r (.mapIter (some b) clock (seen.push e.born) clock)).heap[b]? = some (.map es clock) := by
   simp only [setBlock, hw1h]
   rw [Array.getElem?_setIfInBounds_ne hne]; exact hb
  have hborn : ((leftOf es seen).toList.map (·.born)).Nodup := by
   unfold leftOf
   rw [Array.toList_filter]
   exact h3.sublist (List.Sublist.map _ List.filter_sublist)
  have hleft : (leftOf es (seen.push e.born)).toList = pre ++ post := by
   have : (leftOf es (seen.push e.born)).toList = (leftOf es seen).toList.filter (fun x => decide (x.born ≠ e.born)) := by
    unfold leftOf
    rw [Array.toList_filter, Array.toList_filter, List.filter_filter]
    congr 1
    funext x
    simp only [Array.contains_push]
    by_cases hx : x.born = e.born <;> simp [hx]
   rw [this, hpp, List.filter_append, List.filter_cons]
   rw [hpp, List.map_append, List.map_cons, List.nodup_append] at hborn
   obtain ⟨_, n2, n3⟩ := hborn
   rw [List.nodup_cons] at n2
   have f1 : pre.filter (fun x => decide (x.born ≠ e.born)) = pre := List.filter_eq_self.2 (fun x hx => by
    have := n3 x.born (List.mem_map.2 ⟨x, hx, rfl⟩) e.born List.mem_cons_self
    simpa using this)
   have f2 : post.filter (fun x => decide (x.born ≠ e.born)) = post := List.filter_eq_self.2 (fun x hx => by
    have : x.born ≠ e.born := fun hx2 => n2.1 (List.mem_map.2 ⟨x, hx, hx2⟩)
    simpa using this)
   rw [f1, f2, if_neg (by simp)]
  refine ⟨p, l1, l3, setBlock w1 r (.mapIter (some b) clock (seen.push e.born) clock), ?_, ?_, ⟨es, clock, seen.push e.born, hnew, hbb, h1, h2, h3, h4, ?_⟩, ?_, ?_, ?_⟩
  ·rw [e0, e3]
  ·rw [hrun, ← k1, ← k2]
  ·rw [hleft, List.map_append, List.map_append, e1, e5]
  ·rcases hw1 with rfl | rfl
   ·exact ⟨rfl, rfl, rfl, by simp [setBlock], fun i _ hi => by simp only [setBlock]; rw [Array.getElem?_setIfInBounds_ne (fun e => hi (by rw [e]))]⟩
   ·exact ⟨rfl, rfl, rfl, by simp [setBlock], fun i _ hi => by simp only [setBlock]; rw [Array.getElem?_setIfInBounds_ne (fun e => hi (by rw [e]))]; rfl⟩
  ·simp [setBlock, hw1h]
  ·rw [k1, k2]; exact run_entry_at _ r b clock seen es clock e hnew hbb heM h3
section
variable {P : Program} (w : World) {ops : Array Oper} {rest : List Oper} {o : Oper} {a : Act} {Q : Exit → Act → World → Prop}
theorem wp_lookup (hg : o.guard = none) (m x : Operand) (t : TypeId) (c : Bool) (hop : o.op = Op.lookup t m x c) (kt e : TypeId) (ht : P.underlying t = some (.map kt e)) (hk : P.underlying kt = some (.int .i64)) {z : Value} (hz : ∀ w : World, (zeroValue e).run P w = .ok z w)
  (b : Nat) (l : List (Int × Value)) (hm : a.eval m = .map (some b)) (h : IMap w b l) (k : Int) (hx : a.eval x = .int .i64 k)
  (hK : wpList P ops Q rest (a.put o.dst (if c then .tuple #[(get k l).getD z, .bool (get k l).isSome] else (get k l).getD z)) w) :
  wpList P ops Q (o :: rest) a w := by
 refine wpList_plain hg fun K' hK' => ?_
 have hrun := lookup_run ht hk h (hz w) k c
 obtain ⟨r, hr⟩ : ∃ r, r = (if c then .tuple #[(get k l).getD z, .bool (get k l).isSome] else (get k l).getD z) := ⟨_, rfl⟩
 rw [← hr] at hrun hK
 unfold Oper.wp
 simp [execOp, hop, hm, hx, hrun, Result.andThen]
 exact hK' _ _ hK
theorem wp_lookup_as (hg : o.guard = none) (m x : Operand) (t : TypeId) (c : Bool) (hop : o.op = Op.lookup t m x c) (kt e : TypeId) (ht : P.underlying t = some (.map kt e)) (hk : P.underlying kt = some (.int .i64)) {z : Value} (hz : ∀ w : World, (zeroValue e).run P w = .ok z w)
  (b : Nat) (l : List (Int × Value)) (hm : a.eval m = .map (some b)) (h : IMap w b l) (k : Int) (hx : a.eval x = .int .i64 k) (r : Value) (hr : (if c then .tuple #[(get k l).getD z, .bool (get k l).isSome] else (get k l).getD z) = r)
  (hK : wpList P ops Q rest (a.put o.dst r) w) : wpList P ops Q (o :: rest) a w := by
 subst hr
 exact wp_lookup w hg m x t c hop kt e ht hk hz b l hm h k hx hK
theorem wp_update (hg : o.guard = none) (m x v : Operand) (t : TypeId) (hop : o.op = Op.mapUpdate t m x v) (kt e : TypeId) (ht : P.underlying t = some (.map kt e)) (hk : P.underlying kt = some (.int .i64))
  (b : Nat) (l : List (Int × Value)) (hm : a.eval m = .map (some b)) (h : IMap w b l) (k : Int) (hx : a.eval x = .int .i64 k) (u : Value) (hv : a.eval v = u)
  (hK : ∀ w', IMap w' b (put k u l) → w.grownBy w' (some b) → w'.heap.size = w.heap.size → wpList P ops Q rest (a.put o.dst undef) w') :
  wpList P ops Q (o :: rest) a w := by
 refine wpList_plain hg fun K' hK' => ?_
 obtain ⟨w', hrun, r1, r2, r3⟩ := update_run ht hk h k u
 unfold Oper.wp
 simp [execOp, hop, hm, hx, hv, hrun, Result.andThen]
 exact hK' _ _ (hK w' r1 r2 r3)
theorem wp_store1 (hN : o.dst = none) (hgd : o.guard = none) (t : TypeId) (p x : Operand) (ho : o.op = .store t p x) (g off : Nat) (cur : Array Value) (e : TypeId) (hh : w.heap[g]? = some (.cells cur e (0, 0)))
  (hp : a.eval p = .pointer (some ⟨g, off, none⟩)) (u : Value) (hx : a.eval x = u) (ht : (P.info? t).map (·.size) = some 1) (hu : u.cells = #[u]) (h1 : u.oneCell' = true) (hfit : off < cur.size)
  (h : ∀ w1, w1 = w.setCell ⟨g, off, none⟩ u → wpList P ops Q rest a w1) : wpList P ops Q (o :: rest) a w := by
 refine wpList_plain hgd fun K hK => ?_
 have hrun : (Instr.storeAt t (.pointer (some ⟨g, off, none⟩)) u).run P w = .ok () (w.setCells g off [u]) := run_store_run t u [u] hh (by rw [hu]) ht (by simp; omega) (fun q hq => (List.mem_singleton.1 hq) ▸ h1)
 unfold Oper.wp execOp
 simp only [ho, hp, hx, Sem.run_bind, Sem.run_pure, Result.andThen_ok, hrun]
 show K (a.put o.dst undef) _
 rw [hN]
 exact hK a _ (h _ rfl)
theorem wp_store_whole (hN : o.dst = none) (hgd : o.guard = none) (t : TypeId) (p x : Operand) (ho : o.op = .store t p x) (g : Nat) (cur : Array Value) (e : TypeId) (hh : w.heap[g]? = some (.cells cur e (0, 0)))
  (hp : a.eval p = .pointer (some ⟨g, 0, none⟩)) (u : Value) (seg : List Value) (hx : a.eval x = u) (hu : u.cells.toList = seg) (ht : (P.info? t).map (·.size) = some seg.length) (h1 : ∀ q ∈ seg, q.oneCell' = true) (hlen : seg.length = cur.size)
  (h : ∀ w1, w1.heap[g]? = some (.cells seg.toArray e (0, 0)) → w.grownBy w1 (some g) → w1.heap.size = w.heap.size → wpList P ops Q rest a w1) : wpList P ops Q (o :: rest) a w := by
 refine wpList_plain hgd fun K hK => ?_
 have hrun : (Instr.storeAt t (.pointer (some ⟨g, 0, none⟩)) u).run P w = .ok () (w.setCells g 0 seg) := run_store_run t u seg hh hu ht (by omega) h1
 obtain ⟨cur', c1, c2, c3⟩ := setCells_row seg 0 w cur hh (by omega)
 obtain ⟨s1, s2, s3, s4⟩ := setCells_same g seg 0 w
 have e1 : cur' = seg.toArray := by
  have h2 : cur.toList.drop (0 + seg.length) = [] := by rw [List.drop_eq_nil_iff]; simp; omega
  rw [h2, List.take_zero, List.nil_append, List.append_nil] at c3
  rw [← c3]
 rw [e1] at c1
 unfold Oper.wp execOp
 simp only [ho, hp, hx, Sem.run_bind, Sem.run_pure, Result.andThen_ok, hrun]
 show K (a.put o.dst undef) _
 rw [hN]
 exact hK a _ (h _ c1 ⟨s1, s2, s3, by rw [s4]; exact Nat.le_refl _, fun k _ hk => setCells_far _ _ k (fun he => hk (by rw [he]))⟩ s4)
theorem wp_range (hg : o.guard = none) (m : Operand) (t : TypeId) (hop : o.op = Op.range t m) (kt e : TypeId) (ht : P.underlying t = some (.map kt e)) (b : Nat) (l : List (Int × Value)) (hm : a.eval m = .map (some b)) (h : IMap w b l)
  (hK : ∀ w', Iter w' w.heap.size b l l → w.grownBy w' none → w'.heap.size = w.heap.size + 1 → wpList P ops Q rest (a.put o.dst (.pointer (some ⟨w.heap.size, 0, none⟩))) w') :
  wpList P ops Q (o :: rest) a w := by
 refine wpList_plain hg fun K' hK' => ?_
 obtain ⟨w', hrun, r1, r2, r3⟩ := range_run ht h
 unfold Oper.wp
 simp [execOp, hop, hm, hrun, Result.andThen]
 exact hK' _ _ (hK w' r1 r2 r3)
theorem wp_next (hg : o.guard = none) (it : Operand) (hop : o.op = Op.next it false) (r b : Nat) (m left : List (Int × Value)) (hit : a.eval it = .pointer (some ⟨r, 0, none⟩)) (h : Iter w r b m left)
  (hDone : left = [] → wpList P ops Q rest (a.put o.dst (.tuple #[.bool false])) w)
  (hMore : ∀ (p : Int × Value) (l1 l3 : List (Int × Value)) (w' : World), left = l1 ++ p :: l3 → Iter w' r b m (l1 ++ l3) → w.grownBy w' (some r) → w'.heap.size = w.heap.size →
   (Instr.entry (.pointer (some ⟨r, 0, none⟩))).run P w' = .ok (.tuple #[.int .i64 p.1, p.2]) w' → wpList P ops Q rest (a.put o.dst (.tuple #[.bool true, .int .i64 p.1, p.2])) w') :
  wpList P ops Q (o :: rest) a w := by
 refine wpList_plain hg fun K' hK' => ?_
 unfold Oper.wp
 rcases next_run (P := P) h o.type with ⟨h0, hrun⟩ | ⟨p, l1, l3, w', hp, hrun, h1, h2, h3, h4⟩
 ·simp [execOp, hop, hit, hrun, Result.andThen]
  exact hK' _ _ (hDone h0)
 ·simp [execOp, hop, hit, hrun, Result.andThen]
  exact hK' _ _ (hMore p l1 l3 w' hp h1 h2 h3 h4)
end
end Go.Proofs.Ytdmbibjgiehboaa.Mp
