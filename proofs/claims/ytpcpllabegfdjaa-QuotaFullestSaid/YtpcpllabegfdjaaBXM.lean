-- Cut by a program of this session (wip/pr/pack.py) to what one claim needs.
import Derived.Deep.RegionHeld3
import Derived.WalkKit
import Derived.WalkSpells
import Derived.Lib.Hide
import Derived.Test.YtpcpllabegfdjaaBX
import Derived.Test.YtpcpllabegfdjaaBPx11
import Derived.Test.YtpcpllabegfdjaaBPx12
namespace Go.Proofs.Ytpcpllabegfdjaa.X
open Go.RowKit Go.Sort Go.Proofs.YtpcpllabegfdjaaW.PrintWords Go.Proofs.YtpcpllabegfdjaaW.PrintLast Go.Proofs.YtpcpllabegfdjaaW.PrintMore Go.Proofs.Ytpcpllabegfdjaa.P
set_option linter.unusedVariables false
set_option linter.unusedSimpArgs false
theorem cost_grow (a0 a1 p r : Int) (w : World) (h : rule_Total.f a0 a1 p = some r) :
  Calls Try.prog 13 #[.agg #[.int .i64 a0, .int .i64 a1], .int .i64 p] w fun e w' => e = .returned (.int .i64 r) ∧ ∃ q os, w' = grow (w.drewN q) os := by
 have hu := Try.underlying34
 have H := Lib.hid h
 clear h
 go_enter Try.func13, Try.ntmps13
 go_wp2_with (go_at_call 23; refine (rule_Total.calls _ _ _ _ _ H.out).mono ?_; rintro e w' ⟨rfl, ⟨n, rfl⟩⟩)
 go_ret
 refine ⟨rfl, n, #[.cells #[.int .i64 a0, .int .i64 a1] 34], ?_⟩
 rw [← alloc_eq_grow]
 rfl
theorem keepg {w : World} {a : Addr} {v : Value} (h : w.cell? a = some v) (n : Nat) (os : Array Obj) : (grow (w.drewN n) os).cell? a = some v := by
 have hb : a.block < w.heap.size := World.block_lt_of_cell? w a h
 have e : (grow (w.drewN n) os).heap[a.block]? = w.heap[a.block]? := by
  show (w.heap ++ os)[a.block]? = _
  rw [Array.getElem?_append_left hb]
 rw [World.cell?_of_block e]; exact h
theorem grow2 (w : World) (a b : Nat) (os os2 : Array Obj) : grow ((grow (w.drewN a) os).drewN b) os2 = grow (w.drewN (a + b)) (os ++ os2) := by
 rw [← World.drewN_drewN, ← grow_grow]
 rfl
def cmpI (x y : Int) : Int := if x < y then -1 else if x > y then 1 else 0
theorem compare_calls (x y : Int) (w : World) :
  Calls Try.prog 21 #[.int .i64 x, .int .i64 y] w fun e w' => e = .returned (.int .i64 (cmpI x y)) ∧ w = w' := by
 rcases Int.lt_trichotomy x y with h | h | h
 ·have e : cmpI x y = -1 := by unfold cmpI; rw [if_pos h]
  have E := Lib.hid e
  clear e
  go_enter Try.func21, Try.ntmps21
  go_wp2
  go_ret
  exact ⟨by rw [E.out]; rfl, rfl⟩
 ·subst h
  have e : cmpI x x = 0 := by unfold cmpI; rw [if_neg (by omega), if_neg (by omega)]
  have E := Lib.hid e
  clear e
  go_enter Try.func21, Try.ntmps21
  go_wp2
  go_ret
  exact ⟨by rw [E.out]; rfl, rfl⟩
 ·have e : cmpI x y = 1 := by unfold cmpI; rw [if_neg (by omega), if_pos h]
  have E := Lib.hid e
  clear e
  go_enter Try.func21, Try.ntmps21
  go_wp2
  go_ret
  exact ⟨by rw [E.out]; rfl, rfl⟩
set_option maxHeartbeats 3200000 in
set_option maxRecDepth 100000 in
theorem closure_calls (b1 b2 b o n c x y : Nat) (p x0 x1 y0 y1 r1 r2 : Int) (w : World) (hx' : (x : Int) < (n : Int)) (hy' : (y : Int) < (n : Int))
  (h1 : w.cell? ⟨b1, 0, none⟩ = some (.slice (some ⟨b, o, none⟩) n c)) (h2 : w.cell? ⟨b2, 0, none⟩ = some (.int .i64 p))
  (hx0 : w.cell? ⟨b, o + x * 2, none⟩ = some (.int .i64 x0)) (hx1 : w.cell? ⟨b, o + x * 2 + 1, none⟩ = some (.int .i64 x1)) (hy0 : w.cell? ⟨b, o + y * 2, none⟩ = some (.int .i64 y0)) (hy1 : w.cell? ⟨b, o + y * 2 + 1, none⟩ = some (.int .i64 y1))
  (hr1 : rule_Total.f x0 x1 p = some r1) (hr2 : rule_Total.f y0 y1 p = some r2) :
  Calls Try.prog 20 #[.int .i64 (x : Int), .int .i64 (y : Int), .pointer (some ⟨b1, 0, none⟩), .pointer (some ⟨b2, 0, none⟩)] w fun e w' => e = .returned (.int .i64 (cmpI r1 r2)) ∧ ∃ q os, w' = grow (w.drewN q) os := by
 have hu := Try.underlying34
 have hx'' : (0 : Int) ≤ (x : Int) := by omega
 have hy'' : (0 : Int) ≤ (y : Int) := by omega
 have H1 := Lib.hid hr1
 have H2 := Lib.hid hr2
 clear hr1 hr2
 go_enter Try.func20, Try.ntmps20
 go_wp2_with fail
 go_region_held3 (fun w' => w'.cell? ⟨b1, 0, none⟩ = some (.slice (some ⟨b, o, none⟩) n c) ∧ w'.cell? ⟨b2, 0, none⟩ = some (.int .i64 p) ∧ w'.cell? ⟨b, o + x * 2, none⟩ = some (.int .i64 x0) ∧ w'.cell? ⟨b, o + x * 2 + 1, none⟩ = some (.int .i64 x1) ∧ w'.cell? ⟨b, o + y * 2, none⟩ = some (.int .i64 y0) ∧ w'.cell? ⟨b, o + y * 2 + 1, none⟩ = some (.int .i64 y1))
  (refine ⟨?_, ?_, ?_, ?_, ?_, ?_⟩ <;> first | exact keepg (by assumption) _ _ | exact keepg (keepg (by assumption) _ _) _ _ | assumption)
  (first
   | (go_at_call 13; ((with_reducible refine (cost_grow x0 x1 p r1 _ H1.out).mono ?_); rintro e w' ⟨rfl, q, os, rfl⟩))
   | (go_at_call 13; ((with_reducible refine (cost_grow y0 y1 p r2 _ H2.out).mono ?_); rintro e w' ⟨rfl, q2, os2, rfl⟩))
   | (go_at_call 21; refine (compare_calls _ _ _).mono ?_; rintro e w' ⟨rfl, rfl⟩))
 go_wp2
 go_ret
 exact ⟨rfl, 1 + q + q2, os ++ os2, grow2 _ _ _ _ _⟩
section
variable {α : Type} [Inhabited α] (enc : α → Value) (cf : α → α → Int) (g : Nat) (cb : Array Value) (blk off cap : Nat) (d : Array α) (w : World)
set_option maxHeartbeats 1600000 in
set_option maxRecDepth 100000 in
theorem stable_calls (eg : ∀ args w, (callFunc g args).run Try.prog w = .ok (.enter g args) w) (hcmp : CmpLays1 Try.prog g cb enc cf blk off d.size w) (R : Row1 enc w blk off d) (hn : d.size < 20) :
  Calls Try.prog 27 #[.slice (some ⟨blk, off, none⟩) d.size cap, .int .i64 (d.size : Int), .func (.func g) #[] cb] w fun e w' => e = .returned (.tuple #[]) ∧ SW enc w blk off (Sort.insertionSort (ltOf cf) d 0 d.size) w' := by
 have hc := Lib.hid (Try.insertionSortCmpFunc_s enc cf g cb blk off cap 0 d.size d d w w eg hcmp R rfl (SW.start R.hH) (Nat.zero_le _) (Nat.le_refl _) (by omega))
 have hlt : ((d.size : Nat) : Int) < 20 := by omega
 have h0 : (0 : Int) ≤ ((d.size : Nat) : Int) := by omega
 clear hcmp R eg
 go_enter Try.func27, Try.ntmps27
 go_wp2
 go_loop [7, 8] (fun a b => a = .int .i64 0 ∧ b = .int .i64 20) (fun _ _ => 0)
 case atStart => exact ⟨rfl, rfl⟩
 case round =>
  obtain ⟨rfl, rfl⟩ := hrel
  go_wp2_with fail
  refine hc.out.mono ?_
  rintro e w' ⟨rfl, hS⟩
  have HS := Lib.hid hS
  clear hS
  go_wp2
  go_loop [6] (fun a => a = .int .i64 20) (fun _ => 0)
  case atStart => exact rfl
  case round =>
   obtain rfl := hrel
   go_wp2
   go_end0
   exact ⟨rfl, HS.out⟩
set_option maxHeartbeats 1600000 in
set_option maxRecDepth 100000 in
theorem sortStable_calls (eg : ∀ args w, (callFunc g args).run Try.prog w = .ok (.enter g args) w) (hcmp : CmpLays1 Try.prog g cb enc cf blk off d.size w) (R : Row1 enc w blk off d) (hn : d.size < 20) :
  Calls Try.prog 19 #[.slice (some ⟨blk, off, none⟩) d.size cap, .func (.func g) #[] cb] w fun e w' => e = .returned (.tuple #[]) ∧ SW enc w blk off (Sort.insertionSort (ltOf cf) d 0 d.size) w' := by
 have hc := Lib.hid (stable_calls enc cf g cb blk off cap d w eg hcmp R hn)
 clear hcmp R eg
 go_enter Try.func19, Try.ntmps19
 go_wp2_with fail
 refine hc.out.mono ?_
 rintro e w' ⟨rfl, hS⟩
 have HS := Lib.hid hS
 clear hS
 go_wp2
 go_end0
 exact ⟨rfl, HS.out⟩
end
section
variable (p : Option Addr) (cap : Nat) (f : Value) (w : World)
set_option maxRecDepth 100000 in
theorem ins_none : Calls Try.prog 37 #[.slice p 0 cap, .int .i64 0, .int .i64 0, f] w fun e w' => e = .returned (.tuple #[]) ∧ w = w' := by
 go_enter Try.func37, Try.ntmps37
 go_wp2
 go_loop [8] (fun a => a = .int .i64 1) (fun _ => 0)
 case atStart => exact rfl
 case round =>
  obtain rfl := hrel
  go_wp2
  go_end0
  exact ⟨rfl, rfl⟩
set_option maxRecDepth 100000 in
theorem stable_none : Calls Try.prog 27 #[.slice p 0 cap, .int .i64 0, f] w fun e w' => e = .returned (.tuple #[]) ∧ w = w' := by
 go_enter Try.func27, Try.ntmps27
 go_wp2
 go_loop [7, 8] (fun a b => a = .int .i64 0 ∧ b = .int .i64 20) (fun _ _ => 0)
 case atStart => exact ⟨rfl, rfl⟩
 case round =>
  obtain ⟨rfl, rfl⟩ := hrel
  go_wp2_with fail
  refine (ins_none p cap f w).mono ?_
  rintro e w' ⟨rfl, rfl⟩
  go_wp2
  go_loop [6] (fun a => a = .int .i64 20) (fun _ => 0)
  case atStart => exact rfl
  case round =>
   obtain rfl := hrel
   go_wp2
   go_end0
   exact ⟨rfl, rfl⟩
set_option maxRecDepth 100000 in
theorem sortStable_none : Calls Try.prog 19 #[.slice p 0 cap, f] w fun e w' => e = .returned (.tuple #[]) ∧ w = w' := by
 go_enter Try.func19, Try.ntmps19
 go_wp2_with fail
 refine (stable_none p cap f w).mono ?_
 rintro e w' ⟨rfl, rfl⟩
 go_wp2
 go_end0
 exact ⟨rfl, rfl⟩
end
theorem total_some (a b p : Int) : ∃ r, rule_Total.f a b p = some r := by
 unfold rule_Total.f rule_Check.f rule_paged.f rule_Data.f rule_Check.f rule_paged.f
 repeat' (first | exact ⟨_, rfl⟩ | (exfalso; omega) | split | simp only [Option.bind_some])
def cst (p : Int) (x : S34) : Int := (rule_Total.f x.f0 x.f1 p).getD 0
theorem cst_eq (p : Int) (x : S34) : rule_Total.f x.f0 x.f1 p = some (cst p x) := by
 obtain ⟨r, h⟩ := total_some x.f0 x.f1 p
 unfold cst; rw [h]; rfl
def cfo (l : List S34) (p : Int) (m : Nat) (h : l.length = m + 1) (i j : Fin (m + 1)) : Int := cmpI (cst p (l[i.val]'(by omega))) (cst p (l[j.val]'(by omega)))
def ordF (l : List S34) (p : Int) (m : Nat) (h : l.length = m + 1) : Array (Fin (m + 1)) := Sort.insertionSort (ltOf (cfo l p m h)) (Array.ofFn id) 0 (m + 1)
def ord (l : List S34) (p : Int) : List Int := match h : l.length with
 | 0 => []
 | m + 1 => (ordF l p m h).toList.map fun i => (i.val : Int)
theorem swo (l : List S34) (p : Int) (m : Nat) (h : l.length = m + 1) : SWO (ltOf (cfo l p m h)) := by
 have key : ∀ x y, ltOf (cfo l p m h) x y = decide (cst p (l[x.val]'(by omega)) < cst p (l[y.val]'(by omega))) := by
  intro x y
  unfold ltOf cfo cmpI
  split
  ·simp_all
  ·split <;> simp_all
 constructor
 ·intro x; rw [key]; simp
 ·intro x y z; rw [key, key, key]; simp only [decide_eq_true_eq]; omega
 ·intro x y z; rw [key, key, key]; simp only [decide_eq_false_iff_not]; omega
theorem ordF_spec (l : List S34) (p : Int) (m : Nat) (h : l.length = m + 1) : (ordF l p m h).size = m + 1 ∧ PermIn 0 (m + 1) (Array.ofFn id) (ordF l p m h) ∧ SortedIn (ltOf (cfo l p m h)) 0 (m + 1) (ordF l p m h) := by
 obtain ⟨h1, h2⟩ := insertionSort_holds (swo l p m h) (Array.ofFn id) 0 (m + 1) (Nat.zero_le _) (by simp)
 exact ⟨by have := h1.1; simpa [ordF] using this, h1, h2⟩
theorem numbers_ok (l : List S34) (hl : l.length ≤ 1000) : ∃ k, quota_numbers.f k l = some ((List.range l.length).map fun i : Nat => (i : Int)) := by
 unfold quota_numbers.f
 simp only [if_pos (show (0 : Int) ≤ (l.length : Int) by omega), if_pos (show ((l.length : Int)).toNat ≤ 35184372088832 by omega), Option.bind_some, Int.toNat_natCast, List.length_replicate]
 have key : ∀ (d i : Nat), i + d = l.length → ∀ k, d < k → quota_numbers.l0 k ((List.range i).map (fun i : Nat => (i : Int)) ++ List.replicate d 0) (l.length : Int) (i : Int) = some ((List.range l.length).map fun i : Nat => (i : Int)) := by
  intro d
  induction d with
  | zero =>
   intro i hi k hk
   obtain ⟨k, rfl⟩ : ∃ m, k = m + 1 := ⟨k - 1, by omega⟩
   rw [quota_numbers.l0, if_neg (by omega)]
   obtain rfl : i = l.length := by omega
   simp
  | succ d ih =>
   intro i hi k hk
   obtain ⟨k, rfl⟩ : ∃ m, k = m + 1 := ⟨k - 1, by omega⟩
   rw [quota_numbers.l0, if_pos (by omega), if_pos (by omega), if_pos (by simp; omega)]
   have e1 : wrap64 ((i : Int) + 1) = ((i + 1 : Nat) : Int) := by unfold wrap64; omega
   have e2 : ((List.range i).map (fun i : Nat => (i : Int)) ++ List.replicate (d + 1) 0).set ((i : Int)).toNat (i : Int) = (List.range (i + 1)).map (fun i : Nat => (i : Int)) ++ List.replicate d 0 := by
    rw [Int.toNat_natCast, List.set_append_right _ _ (by simp)]
    simp [List.range_succ, List.replicate_succ]
   rw [e1, e2]
   exact ih (i + 1) (by omega) k (by omega)
 refine ⟨l.length + 1, ?_⟩
 have := key l.length 0 (by omega) (l.length + 1) (by omega)
 simp at this ⊢
 exact ⟨by omega, this⟩
theorem keepsw {α : Type} [Inhabited α] {enc : α → Value} {w : World} {blk : Nat} {a : Addr} {v : Value} (h : w.cell? a = some v) (hne : a.block ≠ blk) (m : Nat) (dk : Array α) (os : Array Obj) : (sortWorld enc w blk 0 m dk os).cell? a = some v := by
 have hb : a.block < w.heap.size := World.block_lt_of_cell? w a h
 have e : (sortWorld enc w blk 0 m dk os).heap[a.block]? = w.heap[a.block]? := by
  unfold sortWorld grow putRow mapBlock
  simp only
  rw [Array.getElem?_append_left (by simpa [Sort.ahead] using hb), Array.getElem?_modify, if_neg (fun e => hne e.symm)]
  rfl
 rw [World.cell?_of_block e]; exact h
theorem putRow_nums {m : Nat} (w : World) (blk off : Nat) (d : Array (Fin (m + 1))) : putRow (fun i : Fin (m + 1) => Value.int .i64 (i.val : Int)) w blk off d = putRow (Value.int .i64) w blk off (d.map fun i => (i.val : Int)) := by
 unfold putRow
 congr 1
 funext c
 unfold putCells
 simp only [Array.size_map]
 congr 1
 funext k x
 by_cases hk : off ≤ k ∧ k < off + d.size
 ·rw [if_pos hk, if_pos hk, getElem!_pos d (k - off) (by omega), getElem!_pos (d.map fun i => (i.val : Int)) (k - off) (by simp; omega)]
  simp
 ·rw [if_neg hk, if_neg hk]
def quota_Most.f (k : Nat) (l0 : List S34) (a1 a2 : Int) : Option (List Int) := if l0.length ≤ 12 then quota_grant.f k l0 (ord l0 a2) a1 a2 else none
theorem wcells {w : World} {A : Option Addr} {n : Nat} {l : List S34} (h : Kd.C k34 w A n l) (hn : 0 < n) :
  ∃ b o, A = some ⟨b, o, none⟩ ∧ ∀ j (hj : j < l.length), w.cell? ⟨b, o + j * 2, none⟩ = some (.int .i64 (l[j]).f0) ∧ w.cell? ⟨b, o + j * 2 + 1, none⟩ = some (.int .i64 (l[j]).f1) := by
 obtain ⟨hl, _, hc0⟩ := h
 obtain ⟨ad, rfl, hc⟩ := hc0 hn
 have key : ∀ j (hj : j < l.length), w.cell? (ad.add (j * 2)) = some (.int .i64 (l[j]).f0) ∧ w.cell? (ad.add (j * 2 + 1)) = some (.int .i64 (l[j]).f1) := by
  intro j hj
  obtain ⟨c, hs, hr, hcell⟩ := hc j l[j] (List.getElem?_eq_getElem hj)
  have hr' := k34_open hr
  subst hr'
  exact ⟨hcell 0 _ rfl, hcell 1 _ rfl⟩
 have hs : ad.spot = none := by
  have h0 := (key 0 (by omega)).1
  have e0 : ad.add (0 * 2) = ad := rfl
  rw [e0] at h0
  cases hsp : ad.spot with
  | none => rfl
  | some s =>
   unfold World.cell? at h0
   split at h0
   ·rw [hsp] at h0; simp at h0
   ·simp at h0
 refine ⟨ad.block, ad.off, ?_, fun j hj => ?_⟩
 ·cases ad; simp only at hs; subst hs; rfl
 ·have := key j hj
  rw [xadd ad _ hs, xadd ad _ hs] at this
  exact this
theorem ord_zero {l : List S34} (p : Int) (h : l.length = 0) : ord l p = [] := by
 have e := List.eq_nil_of_length_eq_zero h
 subst e
 rfl
theorem ord_succ {l : List S34} (p : Int) (m : Nat) (h : l.length = m + 1) : ord l p = (ordF l p m h).toList.map fun i => (i.val : Int) := by
 unfold ord
 split
 ·rename_i h0; rw [h] at h0; cases h0
 ·rename_i m' h'
  have e : m' = m := by omega
  subst e
  rfl
set_option maxHeartbeats 800000 in
theorem sort_most (l : List S34) (p : Int) (hl : l.length ≤ 12) (A0 : Option Addr) (c0 b1 b2 : Nat) (w wB w3 : World) (v0 : Value) (hr0 : Kd.C k34 w A0 l.length l) (hwB : Below w.heap.size w wB) (hb1 : w.heap.size ≤ b1) (hb2 : w.heap.size ≤ b2)
  (h1 : wB.cell? ⟨b1, 0, none⟩ = some (.slice A0 l.length c0)) (h2 : wB.cell? ⟨b2, 0, none⟩ = some (.int .i64 p)) (hb : Below wB.heap.size wB w3)
  (ho : Kd.R (Kd.int .i64) 3 w3 wB.heap.size (fun _ => True) v0 ((List.range l.length).map fun i : Nat => (i : Int))) :
  Calls Try.prog 19 #[v0, .func (.func 20) #[] #[.pointer (some ⟨b1, 0, none⟩), .pointer (some ⟨b2, 0, none⟩)]] w3 fun e w' => e = .returned (.tuple #[]) ∧ Kd.R (Kd.int .i64) 3 w' wB.heap.size (fun _ => True) v0 (ord l p) ∧ Below wB.heap.size wB w' := by
 rcases xown_shape ho with ⟨rfl, h0⟩ | ⟨g, cap, hv, hcap, hcap2, hH, hg⟩
 ·have h0' : l.length = 0 := by have := congrArg List.length h0; simpa using this
  refine (sortStable_none none 0 _ w3).mono ?_
  rintro e w' ⟨rfl, rfl⟩
  rw [ord_zero p h0']
  exact ⟨rfl, Kd.R_nil _ _ _ _ _, hb⟩
 ·simp only [List.length_map, List.length_range] at hv hcap
  subst hv
  rcases Nat.eq_zero_or_pos l.length with h0 | h0
  ·rw [h0] at ho ⊢
   refine (sortStable_none _ _ _ w3).mono ?_
   rintro e w' ⟨rfl, rfl⟩
   rw [ord_zero p h0]
   exact ⟨rfl, by simpa using ho, hb⟩
  ·obtain ⟨m, hm⟩ : ∃ m, l.length = m + 1 := ⟨l.length - 1, by omega⟩
   obtain ⟨b, o, hA, hcells⟩ := wcells hr0 h0
   subst hA
   have hd : (Array.ofFn (n := m + 1) id).size = m + 1 := by simp
   have hgB : wB.heap.size ≤ g := by
    have := xown_nums ho
    exact own_base this g rfl
   have k1 := pw_cell_below hb h1
   have k2 := pw_cell_below hb h2
   have hl1 : b1 < wB.heap.size := World.block_lt_of_cell? _ ⟨b1, 0, none⟩ h1
   have hl2 : b2 < wB.heap.size := World.block_lt_of_cell? _ ⟨b2, 0, none⟩ h2
   have hH' : Holds (fun i : Fin (m + 1) => Value.int .i64 (i.val : Int)) w3 g 0 (Array.ofFn (n := m + 1) id) := by
    intro j hj
    have hj' : j < l.length := by rw [hm]; simpa using hj
    have := hH j (by simpa using hj')
    have e1 : ((List.range l.length).map fun i : Nat => (i : Int)).toArray[j]! = (j : Int) := by
     rw [getElem!_pos _ j (by simpa using hj')]; simp
    have e2 : (((Array.ofFn (n := m + 1) id)[j]!).val : Int) = (j : Int) := by
     rw [getElem!_pos _ j hj, Array.getElem_ofFn]; rfl
    rw [e1] at this
    refine ⟨?_, this.2⟩
    show w3.cell? _ = some (Value.int .i64 (((Array.ofFn (n := m + 1) id)[j]!).val : Int))
    rw [e2]; exact this.1
   have hcmp : CmpLays1 Try.prog 20 #[.pointer (some ⟨b1, 0, none⟩), .pointer (some ⟨b2, 0, none⟩)] (fun i : Fin (m + 1) => Value.int .i64 (i.val : Int)) (cfo l p m hm) g 0 (Array.ofFn (n := m + 1) id).size w3 := by
    intro mm os dk hdk x y
    have hcx := hcells x.val (by omega)
    have hcy := hcells y.val (by omega)
    have hbl : b < w.heap.size := World.block_lt_of_cell? _ ⟨b, o + x.val * 2, none⟩ hcx.1
    have up : ∀ {a : Addr} {v : Value}, a.block = b → w.cell? a = some v → (sortWorld (fun i : Fin (m + 1) => Value.int .i64 (i.val : Int)) w3 g 0 mm dk os).cell? a = some v := fun {a v} ha hv => keepsw (pw_cell_below hb (pw_cell_below hwB hv)) (by have := hwB.size; omega) _ _ _
    exact closure_calls b1 b2 b o l.length c0 x.val y.val p (l[x.val]'(by omega)).f0 (l[x.val]'(by omega)).f1 (l[y.val]'(by omega)).f0 (l[y.val]'(by omega)).f1 _ _ _ (by omega) (by omega)
     (keepsw k1 (by show b1 ≠ g; omega) _ _ _) (keepsw k2 (by show b2 ≠ g; omega) _ _ _) (up rfl hcx.1) (up rfl hcx.2) (up rfl hcy.1) (up rfl hcy.2) (cst_eq p _) (cst_eq p _)
   have hrun := sortStable_calls (fun i : Fin (m + 1) => Value.int .i64 (i.val : Int)) (cfo l p m hm) 20 #[.pointer (some ⟨b1, 0, none⟩), .pointer (some ⟨b2, 0, none⟩)] g 0 cap (Array.ofFn (n := m + 1) id) w3 (enters_of Try.func20 (by kernel_rfl) rfl) hcmp ⟨fun _ => rfl, hH', hg⟩ (by rw [hd]; omega)
   rw [hd] at hrun
   have hv : Value.slice (some ⟨g, 0, none⟩) l.length cap = Value.slice (some ⟨g, 0, none⟩) (m + 1) cap := by rw [hm]
   rw [hv]
   refine hrun.mono ?_
   rintro e w' ⟨rfl, n, os, rfl⟩
   have hspec := ordF_spec l p m hm
   have hsz : ((ordF l p m hm).map fun i => (i.val : Int)).toList.length = l.length := by simp [hspec.1, hm]
   have hx := xwritten (P0_ := fun _ => True) (l0 := (List.range l.length).map fun i : Nat => (i : Int)) hb (by simpa using ho) ((ordF l p m hm).map fun i => (i.val : Int)).toList ((ordF l p m hm).map fun i => (i.val : Int)).toList (by rw [hsz]; simp) (by rw [List.take_length]) (by rw [hsz]; simp) n os
   rw [hsz] at hx
   have hw : sortWorld (fun i : Fin (m + 1) => Value.int .i64 (i.val : Int)) w3 g 0 n (Sort.insertionSort (ltOf (cfo l p m hm)) (Array.ofFn id) 0 (m + 1)) os = grow (putRow (Value.int .i64) (Sort.ahead w3 n) g 0 ((ordF l p m hm).map fun i => (i.val : Int)).toList.toArray) os := by
    unfold sortWorld
    rw [putRow_nums]
    rfl
   rw [hw, ord_succ p m hm]
   have ht : (ordF l p m hm).toList.map (fun i => (i.val : Int)) = ((ordF l p m hm).map fun i => (i.val : Int)).toList := by simp
   rw [ht, ← hv]
   exact ⟨rfl, Kd.R_mono hx.1 (fun _ _ => trivial), hx.2.1⟩
set_option maxHeartbeats 3200000 in
set_option maxRecDepth 100000 in
theorem quota_Most.calls (k : Nat) (A0 : Option Addr) (c0 : Nat) (l0 : List S34) (a1 : Int) (a2 : Int) (r : List Int) (w : World) (hr0 : Kd.C k34 w A0 l0.length l0) (hc0 : l0.length ≤ c0) (h : quota_Most.f k l0 a1 a2 = some r) :
  Calls Try.prog 11 #[.slice A0 l0.length c0, .int .i64 a1, .int .i64 a2] w fun e w' => ∃ v0_ : Value, e = .returned (v0_) ∧ Kd.R (Kd.int .i64) 3 w' w.heap.size (fun _ => True) v0_ r ∧ Below w.heap.size w w' := by
 unfold quota_Most.f at h
 by_cases hl : l0.length ≤ 12
 ·rw [if_pos hl] at h
  obtain ⟨kn, hn⟩ := numbers_ok l0 (by omega)
  have B1 : Below w.heap.size w ((w.alloc (.cells #[.slice A0 l0.length c0] 22)).alloc (.cells #[.int .i64 a2] 3)) := ((Below.refl _ _).alloc (Nat.le_refl _) _).alloc (by simp) _
  have HN := Lib.hid (fun (W : World) (hb : Below w.heap.size w W) => quota_numbers.calls kn A0 c0 l0 _ W (Kd.C_below hr0 hb) hc0 hn)
  have HG := Lib.hid (fun (W : World) (hb : Below w.heap.size w W) (A1 : Option Addr) (c1 : Nat) (h1 : Kd.C (Kd.int .i64) W A1 (ord l0 a2).length (ord l0 a2)) (h2 : (ord l0 a2).length ≤ c1) => quota_grant.calls k A0 c0 l0 A1 c1 (ord l0 a2) a1 a2 r W (Kd.C_below hr0 hb) hc0 h1 h2 h)
  have HB1 := Lib.hid B1
  have HR0 := Lib.hid hr0
  clear B1 hr0 hn h
  go_enter Try.func11, Try.ntmps11
  go_wp2_with fail
  refine (HN.out _ HB1.out).mono ?_
  rintro e w3 ⟨v0, rfl, ho, hb⟩
  have hc1 : w3.cell? ⟨w.heap.size, 0, none⟩ = some (.slice A0 l0.length c0) := pw_cell_below hb (by go_simp)
  have hc2 : w3.cell? ⟨w.heap.size + 1, 0, none⟩ = some (.int .i64 a2) := pw_cell_below hb (by go_simp)
  have hbw := below_then HB1.out HB1.out.size hb
  have hsz : w.heap.size + 2 ≤ w3.heap.size := by have := hb.size; simp at this; omega
  have HS := Lib.hid (sort_most l0 a2 hl A0 c0 w.heap.size (w.heap.size + 1) w _ w3 v0 HR0.out HB1.out (Nat.le_refl _) (Nat.le_succ _) (by go_simp) (by go_simp) hb ho)
  have HOW := Lib.hid hb
  clear hb ho hbw
  go_wp2_with fail
  refine HS.out.mono ?_
  rintro e w4 ⟨rfl, ho4, hb4⟩
  have hd1 : w4.cell? ⟨w.heap.size, 0, none⟩ = some (.slice A0 l0.length c0) := pw_cell_below hb4 (by go_simp)
  have hd2 : w4.cell? ⟨w.heap.size + 1, 0, none⟩ = some (.int .i64 a2) := pw_cell_below hb4 (by go_simp)
  have HB4 := Lib.hid (below_then HB1.out HB1.out.size hb4)
  have HO4 := Lib.hid ho4
  clear ho4 hb4 hc1 hc2
  obtain ⟨A1, c1, rfl, hle, hC⟩ := Kd.R_reads HO4.out
  have HG2 := Lib.hid (HG.out _ HB4.out A1 c1 hC hle)
  clear hC hle HS HO4
  go_wp2_with fail
  refine HG2.out.mono ?_
  rintro e w5 ⟨v5, rfl, ho5, hb5⟩
  have HO5 := Lib.hid (Kd.R_lower ho5 HB4.out.size)
  have HB5 := Lib.hid (below_then HB4.out HB4.out.size hb5)
  clear ho5 hb5
  go_wp2
  go_ret
  exact ⟨v5, rfl, HO5.out, HB5.out⟩
 ·rw [if_neg hl] at h
  exact absurd h (by simp)
end Go.Proofs.Ytpcpllabegfdjaa.X
