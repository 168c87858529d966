-- Cut by a program of this session (wip/pr/pack.py) to what one claim needs.
import Derived.Lib.SlicesCompact
import Derived.Test.YteedjokkfiglhaaBWMore
namespace Go.Proofs.Yteedjokkfiglhaa.Gen
open Go.RowKit Go.Proofs.YteedjokkfiglhaaW.PrintWords Go.Proofs.YteedjokkfiglhaaW.PrintLast Go.Proofs.YteedjokkfiglhaaW.PrintMore
set_option linter.unusedVariables false
theorem ev_succ {α : Type} {g h : Nat → Option α} {r : α} (e : ∀ k, g (k + 1) = h k) (H : Ev h r) : Ev g r := by
 obtain ⟨K, hK⟩ := H
 refine ⟨K + 1, fun k hk => ?_⟩
 obtain ⟨m, rfl⟩ : ∃ m, k = m + 1 := ⟨k - 1, by omega⟩
 rw [e]; exact hK m (by omega)
theorem ev_bind {α β : Type} {g : Nat → Option α} {f : Nat → α → Option β} {a : α} {b : β} (h1 : Ev g a) (h2 : Ev (fun k => f k a) b) : Ev (fun k => (g k).bind (f k)) b := by
 obtain ⟨K, hK⟩ := h1
 obtain ⟨L, hL⟩ := h2
 exact ⟨max K L, fun k hk => by show (g k).bind (f k) = _; rw [hK k (by omega)]; exact hL k (by omega)⟩
theorem ev_const {α : Type} (a : α) : Ev (fun _ => some a) a := ⟨0, fun _ _ => rfl⟩
theorem ev_of {α : Type} {x : Option α} {a : α} (h : x = some a) : Ev (fun _ => x) a := ⟨0, fun _ _ => h⟩
theorem ev_congr {α : Type} {g h : Nat → Option α} {r : α} (e : ∀ k, g k = h k) (H : Ev h r) : Ev g r := by
 obtain ⟨K, hK⟩ := H
 exact ⟨K, fun k hk => by rw [e]; exact hK k hk⟩
theorem ev_ex {α : Type} {g : Nat → Option α} {r : α} (H : Ev g r) : ∃ k, g k = some r := by
 obtain ⟨K, hK⟩ := H
 exact ⟨K, hK K (Nat.le_refl _)⟩
theorem ev_pos {α : Type} {c : Prop} [Decidable c] {g h : Nat → Option α} {r : α} (hc : c) (h1 : Ev g r) : Ev (fun k => if c then g k else h k) r := ev_congr (fun k => if_pos hc) h1
theorem ev_neg {α : Type} {c : Prop} [Decidable c] {g h : Nat → Option α} {r : α} (hc : ¬ c) (h1 : Ev h r) : Ev (fun k => if c then g k else h k) r := ev_congr (fun k => if_neg hc) h1
theorem w64 {x : Int} (h0 : -9223372036854775808 ≤ x) (h1 : x ≤ 9223372036854775807) : wrap64 x = x := by unfold wrap64; omega
theorem nx {j : Nat} (h : j ≤ 1000000) : wrap64 ((j : Int) + 1) = ((j + 1 : Nat) : Int) := by rw [w64 (by omega) (by omega)]; omega
theorem wf_u8 {m : Int} (wm : (Lit.int .u8 m).wf = true) : 0 ≤ m ∧ m ≤ 255 := by
 have h : (decide (IntKind.u8.min ≤ m) && decide (m ≤ IntKind.u8.max)) = true := wm
 simp only [Bool.and_eq_true, decide_eq_true_eq] at h
 have h1 : IntKind.u8.min = 0 := rfl
 have h2 : IntKind.u8.max = 255 := rfl
 omega
theorem sorted_ext : ∀ {l1 l2 : List Int}, l1.Pairwise (· < ·) → l2.Pairwise (· < ·) → (∀ x, x ∈ l1 ↔ x ∈ l2) → l1 = l2
 | [], [], _, _, _ => rfl
 | [], b :: s, _, _, h => by have := (h b).2 List.mem_cons_self; cases this
 | a :: t, [], _, _, h => by have := (h a).1 List.mem_cons_self; cases this
 | a :: t, b :: s, h1, h2, h => by
  rw [List.pairwise_cons] at h1 h2
  have e : a = b := by
   have ha := (h a).1 List.mem_cons_self
   have hb := (h b).2 List.mem_cons_self
   rcases List.mem_cons.1 ha with ha | ha
   ·exact ha
   ·rcases List.mem_cons.1 hb with hb | hb
    ·exact hb.symm
    ·have := h1.1 b hb; have := h2.1 a ha; omega
  subst e
  congr 1
  refine sorted_ext h1.2 h2.2 (fun x => ⟨fun hx => ?_, fun hx => ?_⟩)
  ·rcases List.mem_cons.1 ((h x).1 (List.mem_cons_of_mem _ hx)) with e | e
   ·subst e; have := h1.1 x hx; omega
   ·exact e
  ·rcases List.mem_cons.1 ((h x).2 (List.mem_cons_of_mem _ hx)) with e | e
   ·subst e; have := h2.1 x hx; omega
   ·exact e
theorem sort_sorted (l : List Int) : (l.mergeSort fun x y => decide (x ≤ y)).Pairwise (· ≤ ·) := by
 have := List.pairwise_mergeSort (le := fun x y : Int => decide (x ≤ y)) (by intro a b c h1 h2; simp only [decide_eq_true_eq] at *; omega) (by intro a b; simp only [Bool.or_eq_true, decide_eq_true_eq]; omega) l
 exact this.imp (fun h => by simpa using h)
theorem sorted_perm {l1 l2 : List Int} (h1 : l1.Pairwise (· ≤ ·)) (h2 : l2.Pairwise (· ≤ ·)) (h : l1.Perm l2) : l1 = l2 :=
 h.eq_of_pairwise (le := (· ≤ ·)) (fun a b _ _ h1 h2 => Int.le_antisymm h1 h2) h1 h2
theorem compact_mem_aux (zs : List Int) : ∀ m, m ≤ zs.length → ∀ x, x ∈ zs.take m ↔ x ∈ Lib.compactUpTo zs.toArray m
 | 0, _, x => by simp [Lib.compactUpTo]
 | m + 1, hm, x => by
  have ih := compact_mem_aux zs m (by omega)
  have hg : zs.toArray[m]! = zs[m] := by rw [getElem!_pos zs.toArray m (by simp; omega)]; rfl
  rw [Lib.compactUpTo_succ, List.take_succ_eq_append_getElem (by omega), List.mem_append, List.mem_append, ih x, hg]
  by_cases hk : Lib.keeps zs.toArray m = true
  ·rw [if_pos hk]
  ·rw [if_neg hk]
   have hk' := hk
   unfold Lib.keeps at hk'
   simp only [decide_eq_true_eq, not_or, Decidable.not_not] at hk'
   obtain ⟨h0, he⟩ := hk'
   have hg' : zs.toArray[m - 1]! = zs[m - 1] := by rw [getElem!_pos zs.toArray (m - 1) (by simp; omega)]; rfl
   rw [hg, hg'] at he
   constructor
   ·rintro (h | h)
    ·exact .inl h
    ·rw [List.mem_singleton] at h
     subst h
     refine .inl ((ih _).1 ?_)
     rw [he]
     exact List.mem_take_iff_getElem.2 ⟨m - 1, by omega, rfl⟩
   ·rintro (h | h)
    ·exact .inl h
    ·cases h
theorem compact_mem (zs : List Int) (x : Int) : x ∈ Lib.compact zs ↔ x ∈ zs := by
 have := compact_mem_aux zs zs.length (Nat.le_refl _) x
 rw [List.take_length] at this
 exact this.symm
theorem compact_sorted_aux (zs : List Int) (hs : zs.Pairwise (· ≤ ·)) : ∀ m, m ≤ zs.length → (Lib.compactUpTo zs.toArray m).Pairwise (· < ·) ∧ ∀ x, x ∈ Lib.compactUpTo zs.toArray m → 0 < m ∧ ∃ h : m - 1 < zs.length, x ≤ zs[m - 1]
 | 0, _ => by simp [Lib.compactUpTo]
 | m + 1, hm => by
  obtain ⟨ih1, ih2⟩ := compact_sorted_aux zs hs m (by omega)
  have hg : zs.toArray[m]! = zs[m] := by rw [getElem!_pos zs.toArray m (by simp; omega)]; rfl
  rw [Lib.compactUpTo_succ, hg]
  have step : ∀ (h : 0 < m), zs[m - 1]'(by omega) ≤ zs[m] := fun h => List.pairwise_iff_getElem.1 hs (m - 1) m (by omega) (by omega) (by omega)
  by_cases hk : Lib.keeps zs.toArray m = true
  ·rw [if_pos hk]
   refine ⟨List.pairwise_append.2 ⟨ih1, List.pairwise_singleton _ _, fun a ha b hb => ?_⟩, fun x hx => ⟨by omega, by omega, ?_⟩⟩
   ·rw [List.mem_singleton] at hb
    subst hb
    obtain ⟨h0, _, h1⟩ := ih2 a ha
    have h2 := step h0
    have hg' : zs.toArray[m - 1]! = zs[m - 1] := by rw [getElem!_pos zs.toArray (m - 1) (by simp; omega)]; rfl
    unfold Lib.keeps at hk
    rw [decide_eq_true_eq, hg, hg'] at hk
    rcases hk with hk | hk
    ·omega
    ·omega
   ·rcases List.mem_append.1 hx with hx | hx
    ·obtain ⟨h0, _, h1⟩ := ih2 x hx
     have h2 := step h0
     simp only [Nat.add_sub_cancel]
     omega
    ·rw [List.mem_singleton] at hx
     subst hx
     simp
  ·rw [if_neg hk, List.append_nil]
   refine ⟨ih1, fun x hx => ⟨by omega, by omega, ?_⟩⟩
   obtain ⟨h0, _, h1⟩ := ih2 x hx
   have h2 := step h0
   simp only [Nat.add_sub_cancel]
   omega
theorem compact_sorted {zs : List Int} (hs : zs.Pairwise (· ≤ ·)) : (Lib.compact zs).Pairwise (· < ·) := (compact_sorted_aux zs hs zs.length (Nat.le_refl _)).1
theorem rd_nat {xs : List Int} {i : Nat} (h1 : i < xs.length) : rd xs (i : Int) = xs[i] := by
 unfold rd; rw [List.getD_eq_getElem?_getD, Int.toNat_natCast, List.getElem?_eq_getElem h1]; rfl
theorem rd_set {xs : List Int} {i j : Int} {v : Int} (h0 : 0 ≤ i) (h1 : i < xs.length) (hj : 0 ≤ j) : rd (xs.set i.toNat v) j = if j = i then v else rd xs j := by
 unfold rd
 rw [List.getD_eq_getElem?_getD, List.getD_eq_getElem?_getD, List.getElem?_set]
 by_cases e : j = i
 ·subst e; rw [if_pos rfl, if_pos (by omega), if_pos rfl]; rfl
 ·rw [if_neg (by omega), if_neg e]
theorem mn_min (a b : Int) : mn a b = min a b := by unfold mn; split <;> omega
theorem mx_max (a b : Int) : mx a b = max a b := by unfold mx; split <;> omega
end Go.Proofs.Yteedjokkfiglhaa.Gen
