-- Cut by a program of this session (wip/pr/pack.py) to what one claim needs.
import Derived.Test.YtdmbibjgiehboaaBHealD
import Derived.Test.YtdmbibjgiehboaaBPx16
namespace Go.Proofs.Ytdmbibjgiehboaa.Hl
open Go.RowKit Go.Proofs.YtdmbibjgiehboaaW.PrintWords Go.Proofs.YtdmbibjgiehboaaW.PrintLast Go.Proofs.YtdmbibjgiehboaaW.PrintMore Go.Proofs.Ytdmbibjgiehboaa.P Go.Proofs.Ytdmbibjgiehboaa.X Go.Proofs.Ytdmbibjgiehboaa.Gen
set_option linter.unusedVariables false
set_option linter.unusedSimpArgs false
def farB (a2 a3 a4 : Int) (b : Int) (f : Pg) : Bool := decide (f.f0 = b) && (mineB a2 a3 f && decide (a4 ≤ f.f3.f2))
def outAt (l : List Pg) (a2 a3 a4 : Int) (b : Nat) : List Int := ((List.range b).filter fun q : Nat => l.any (farB a2 a3 a4 (q : Int))).map fun q : Nat => (q : Int)
theorem outAt_succ (l : List Pg) (a2 a3 a4 : Int) (b : Nat) : outAt l a2 a3 a4 (b + 1) = if l.any (farB a2 a3 a4 (b : Int)) = true then outAt l a2 a3 a4 b ++ [(b : Int)] else outAt l a2 a3 a4 b := by
 unfold outAt
 rw [List.range_succ, List.filter_append, List.map_append]
 cases h : l.any (farB a2 a3 a4 (b : Int)) <;> simp [List.filter_cons, h]
theorem outAt_len (l : List Pg) (a2 a3 a4 : Int) (b : Nat) : (outAt l a2 a3 a4 b).length ≤ b := by
 unfold outAt
 rw [List.length_map]
 have := List.length_filter_le (fun q : Nat => l.any (farB a2 a3 a4 (q : Int))) (List.range b)
 rw [List.length_range] at this
 exact this
theorem outAt_mem (l : List Pg) (a2 a3 a4 : Int) (b : Nat) (x : Int) : x ∈ outAt l a2 a3 a4 b ↔ 0 ≤ x ∧ x < (b : Int) ∧ l.any (farB a2 a3 a4 x) = true := by
 unfold outAt
 rw [List.mem_map]
 constructor
 ·rintro ⟨q, hq, rfl⟩
  rw [List.mem_filter, List.mem_range] at hq
  exact ⟨by omega, by omega, hq.2⟩
 ·rintro ⟨h0, h1, h2⟩
  refine ⟨x.toNat, ?_, by omega⟩
  rw [List.mem_filter, List.mem_range]
  refine ⟨by omega, ?_⟩
  rw [show ((x.toNat : Nat) : Int) = x by omega]
  exact h2
theorem outAt_sorted (l : List Pg) (a2 a3 a4 : Int) (b : Nat) : (outAt l a2 a3 a4 b).Pairwise (· < ·) := by
 unfold outAt
 rw [List.pairwise_map]
 exact ((List.pairwise_lt_range (n := b)).filter _).imp (fun h => by omega)
theorem voidL_mem (a4 : Int) (l : List Pg) (x : Int) : x ∈ voidL a4 l ↔ ∃ f, f ∈ l ∧ a4 ≤ f.f3.f2 ∧ f.f0 = x := by
 have key : ∀ (l : List Pg) (out : List Int), x ∈ l.foldl (voidStep a4) out ↔ x ∈ out ∨ ∃ f, f ∈ l ∧ a4 ≤ f.f3.f2 ∧ f.f0 = x := by
  intro l
  induction l with
  | nil => intro out; simp
  | cons f l ih =>
   intro out
   rw [List.foldl_cons, ih]
   have h2 : x ∈ voidStep a4 out f ↔ x ∈ out ∨ (a4 ≤ f.f3.f2 ∧ f.f0 = x) := by
    unfold voidStep
    by_cases h : a4 ≤ f.f3.f2
    ·by_cases hm : f.f0 ∈ out
     ·rw [decide_eq_true h, decide_eq_true hm, if_neg (by decide)]
      exact ⟨.inl, fun h => h.elim id (fun e => e.2 ▸ hm)⟩
     ·rw [decide_eq_true h, decide_eq_false hm, if_pos (by decide), List.mem_append, List.mem_singleton]
      exact ⟨fun e => e.imp id (fun e => ⟨h, e.symm⟩), fun e => e.imp id (fun e => e.2.symm)⟩
    ·rw [decide_eq_false h, Bool.false_and, if_neg (by decide)]
     exact ⟨.inl, fun e => e.elim id (fun e => absurd e.1 h)⟩
   rw [h2]
   constructor
   ·rintro ((h | h) | ⟨g, hg, h⟩)
    ·exact .inl h
    ·exact .inr ⟨f, List.mem_cons_self, h⟩
    ·exact .inr ⟨g, List.mem_cons_of_mem _ hg, h⟩
   ·rintro (h | ⟨g, hg, h⟩)
    ·exact .inl (.inl h)
    ·rcases List.mem_cons.1 hg with e | hg
     ·subst e; exact .inl (.inr h)
     ·exact .inr ⟨g, hg, h⟩
 unfold voidL
 rw [key]
 simp
theorem voidL_nodup (a4 : Int) (l : List Pg) : (voidL a4 l).Nodup := by
 have key : ∀ (l : List Pg) (out : List Int), out.Nodup → (l.foldl (voidStep a4) out).Nodup := by
  intro l
  induction l with
  | nil => intro out h; exact h
  | cons f l ih =>
   intro out h
   rw [List.foldl_cons]
   refine ih _ ?_
   unfold voidStep
   split
   ·rename_i hc
    rw [Bool.and_eq_true, Bool.not_eq_true', decide_eq_false_iff_not] at hc
    rw [List.nodup_append]
    refine ⟨h, by simp, fun a ha b hb e => ?_⟩
    rw [List.mem_singleton] at hb
    subst hb; subst e
    exact hc.2 ha
   ·exact h
 exact key l [] List.nodup_nil
theorem void_eq (l : List Pg) (a1 a2 a3 a4 : Int) : ((voidL a4 (mineL a1 a2 a3 l)).mergeSort fun x y => decide (x ≤ y)) = outAt l a2 a3 a4 a1.toNat := by
 have hp := List.mergeSort_perm (voidL a4 (mineL a1 a2 a3 l)) (fun x y => decide (x ≤ y))
 refine sorted_ext ?_ (outAt_sorted _ _ _ _ _) (fun x => ?_)
 ·have h1 := sort_sorted (voidL a4 (mineL a1 a2 a3 l))
  have h2 : ((voidL a4 (mineL a1 a2 a3 l)).mergeSort fun x y => decide (x ≤ y)).Nodup := hp.symm.nodup (voidL_nodup _ _)
  rw [List.nodup_iff_pairwise_ne] at h2
  exact (List.pairwise_and_iff.2 ⟨h1, h2⟩).imp (fun {a b} h => by have h3 : a ≤ b := h.1; have h4 : a ≠ b := h.2; omega)
 ·rw [hp.mem_iff, voidL_mem, outAt_mem, List.any_eq_true]
  unfold mineL inB farB
  constructor
  ·rintro ⟨f, hf, h4, rfl⟩
   rw [List.mem_filter, Bool.and_eq_true, decide_eq_true_eq] at hf
   refine ⟨hf.2.1.1, by have := hf.2.1.1; have := hf.2.1.2; omega, f, hf.1, ?_⟩
   rw [decide_eq_true rfl, Bool.true_and, hf.2.2, Bool.true_and]
   exact decide_eq_true h4
  ·rintro ⟨h0, h1, f, hf, h2⟩
   rw [Bool.and_eq_true, Bool.and_eq_true, decide_eq_true_eq, decide_eq_true_eq] at h2
   obtain ⟨rfl, h3, h4⟩ := h2
   refine ⟨f, ?_, h4, rfl⟩
   rw [List.mem_filter, Bool.and_eq_true, decide_eq_true_eq]
   exact ⟨hf, ⟨h0, by omega⟩, h3⟩
theorem hv_l1 (l : List Pg) (a1 a2 a3 a4 : Int) (hl : l.length ≤ 1000) (out : List Int) (hout : out.length ≤ 1000) (b N : Int) (r : Bool) : ∀ (d i : Nat), i + d = l.length →
  Ev (fun k => if (l.drop i).any (farB a2 a3 a4 b) = true then almshouselaw17_HealVoid.l0 k l a1 a2 a3 a4 (out ++ [b]) N (wrap64 (b + 1)) else almshouselaw17_HealVoid.l0 k l a1 a2 a3 a4 out N (wrap64 (b + 1))) r →
  Ev (fun k => almshouselaw17_HealVoid.l1 k l a1 a2 a3 a4 out b N b l (l.length : Int) (i : Int)) r := by
 intro d
 induction d with
 | zero =>
  intro i hi H
  obtain rfl : i = l.length := by omega
  refine ev_succ (fun k => by rw [almshouselaw17_HealVoid.l1]) ?_
  simp only [Int.lt_irrefl, if_false]
  simpa only [List.drop_length, List.any_nil, Bool.false_eq_true, if_false] using H
 | succ d ih =>
  intro i hi H
  have hlt : i < l.length := by omega
  have i1 := ih (i + 1) (by omega)
  rw [List.drop_eq_getElem_cons hlt, List.any_cons] at H
  refine ev_succ (fun k => by rw [almshouselaw17_HealVoid.l1]) ?_
  simp only [if_pos (show (i : Int) < (l.length : Int) by omega), if_pos (show (0 : Int) ≤ (i : Int) by omega), rdF hlt, nx (j := i) (by omega)]
  unfold farB at H
  by_cases h1 : (l[i]).f0 = b
  ·refine ev_pos h1 ?_
   rw [decide_eq_true h1, Bool.true_and] at H
   refine ev_bind (ev_of (rmine_f a2 a3 l[i])) ?_
   cases hm : mineB a2 a3 l[i] with
   | true =>
    rw [hm, Bool.true_and] at H
    simp only [if_true]
    by_cases h2 : (l[i]).f3.f2 ≥ a4
    ·refine ev_pos h2 ?_
     rw [decide_eq_true (show a4 ≤ (l[i]).f3.f2 from h2), Bool.true_or] at H
     simp only [if_true] at H
     simp only [if_pos (show out.length < 17592186044416 by omega)]
     exact H
    ·refine ev_neg h2 ?_
     rw [decide_eq_false (show ¬ a4 ≤ (l[i]).f3.f2 from h2), Bool.false_or] at H
     exact i1 H
   | false =>
    rw [hm, Bool.false_and, Bool.false_or] at H
    simp only [Bool.false_eq_true, if_false]
    exact i1 H
  ·refine ev_neg h1 ?_
   rw [decide_eq_false h1, Bool.false_and, Bool.false_or] at H
   exact i1 H
theorem HealVoid_ev (l : List Pg) (a1 a2 a3 a4 : Int) (hl0 : l.length ≤ 1599289640401) : Ev (fun k => almshouselaw17_HealVoid.f k l a1 a2 a3 a4) true := by
 unfold almshouselaw17_HealVoid.f
 refine ev_bind (ev_of fixed_ok) ?_
 simp only [if_true]
 refine ev_bind (may_ok l a1 hl0) ?_
 cases hm : mayB l a1 with
 | false => simp only [Bool.false_eq_true, if_false]; exact ev_const _
 | true =>
  simp only [if_true]
  unfold mayB at hm
  simp only [Bool.and_eq_true, decide_eq_true_eq] at hm
  obtain ⟨hok, hl, h1⟩ := hm
  have hN : mx a1 0 = (a1.toNat : Int) := by unfold mx; split <;> omega
  rw [hN]
  obtain ⟨n, hn⟩ : ∃ n, a1.toNat = n := ⟨_, rfl⟩
  have hn2 : n ≤ 64 := by omega
  have key : ∀ d b, b + d = n → Ev (fun k => almshouselaw17_HealVoid.l0 k l a1 a2 a3 a4 (outAt l a2 a3 a4 b) (n : Int) (b : Int)) true := by
   intro d
   induction d with
   | zero =>
    intro b hb
    obtain rfl : b = n := by omega
    refine ev_succ (fun k => by rw [almshouselaw17_HealVoid.l0]) ?_
    simp only [Int.lt_irrefl, if_false]
    have hv : heal_Void.f l a1 a2 a3 a4 = some (outAt l a2 a3 a4 b) := by
     unfold heal_Void.f; rw [if_pos (by omega), void_eq, hn]
    refine ev_bind (ev_of hv) ?_
    have hle := outAt_len l a2 a3 a4 b
    exact ev_bind (same_ok (outAt l a2 a3 a4 b) (by omega)) (ev_const _)
   | succ d ih =>
    intro b hb
    have i1 := ih (b + 1) (by omega)
    rw [outAt_succ] at i1
    have hle := outAt_len l a2 a3 a4 b
    refine ev_succ (fun k => by rw [almshouselaw17_HealVoid.l0]) ?_
    simp only [if_pos (show (b : Int) < (n : Int) by omega)]
    refine hv_l1 l a1 a2 a3 a4 (by omega) (outAt l a2 a3 a4 b) (by omega) (b : Int) (n : Int) true l.length 0 (by omega) ?_
    rw [List.drop_zero, nx (j := b) (by omega)]
    cases h : l.any (farB a2 a3 a4 (b : Int)) with
    | true => rw [h] at i1; simp only [if_true] at i1 ⊢; exact i1
    | false => rw [h] at i1; simp only [Bool.false_eq_true, if_false] at i1 ⊢; exact i1
  rw [hn]
  have := key n 0 (by omega)
  simpa [outAt] using this
end Go.Proofs.Ytdmbibjgiehboaa.Hl
