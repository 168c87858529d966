-- Cut by a program of this session (wip/pr/pack.py) to what one claim needs.
import Derived.Test.YtpcpllabegfdjaaBQuotaC
namespace Go.Proofs.Ytpcpllabegfdjaa.Qt
open Go.RowKit Go.Proofs.YtpcpllabegfdjaaW.PrintWords Go.Proofs.YtpcpllabegfdjaaW.PrintLast Go.Proofs.YtpcpllabegfdjaaW.PrintMore Go.Proofs.Ytpcpllabegfdjaa.P Go.Proofs.Ytpcpllabegfdjaa.X Go.Proofs.Ytpcpllabegfdjaa.Gen
set_option linter.unusedVariables false
set_option linter.unusedSimpArgs false
set_option linter.unusedSectionVars false
theorem ahead_irrefl : ∀ x : List Int, aheadB x x = false
 | [] => rfl
 | a :: t => by rw [aheadB, if_pos rfl]; exact ahead_irrefl t
theorem ahead_trans : ∀ x y z : List Int, x.length = y.length → y.length = z.length → aheadB x y = true → aheadB y z = true → aheadB x z = true
 | [], _, _, _, _, h, _ => by simp [aheadB] at h
 | _ :: _, [], _, _, _, h, _ => by simp [aheadB] at h
 | _ :: _, _ :: _, [], _, _, _, h => by simp [aheadB] at h
 | a :: x, b :: y, c :: z, h1, h2, h3, h4 => by
  simp only [List.length_cons, Nat.add_right_cancel_iff] at h1 h2
  rw [aheadB] at h3 h4 ⊢
  by_cases e1 : a = b
  ·subst e1
   rw [if_pos rfl] at h3
   by_cases e2 : a = c
   ·subst e2
    rw [if_pos rfl] at h4 ⊢
    exact ahead_trans x y z h1 h2 h3 h4
   ·rw [if_neg e2] at h4 ⊢; exact h4
  ·rw [if_neg e1, decide_eq_true_eq] at h3
   by_cases e2 : b = c
   ·subst e2
    rw [if_neg e1, decide_eq_true_eq]; exact h3
   ·rw [if_neg e2, decide_eq_true_eq] at h4
    rw [if_neg (by omega), decide_eq_true_eq]; omega
theorem ahead_total : ∀ x y : List Int, x.length = y.length → aheadB x y = false → aheadB y x = false → x = y
 | [], [], _, _, _ => rfl
 | [], _ :: _, h, _, _ => by simp at h
 | _ :: _, [], h, _, _ => by simp at h
 | a :: x, b :: y, h, h1, h2 => by
  simp only [List.length_cons, Nat.add_right_cancel_iff] at h
  rw [aheadB] at h1 h2
  by_cases e : a = b
  ·subst e
   rw [if_pos rfl] at h1 h2
   rw [ahead_total x y h h1 h2]
  ·rw [if_neg e, decide_eq_false_iff_not] at h1
   rw [if_neg (by omega), decide_eq_false_iff_not] at h2
   omega
theorem beats_iff (c : Int → Int) (x y : List Int) : beats c x y = true ↔ su c y < su c x ∨ (su c x = su c y ∧ (x.length < y.length ∨ (x.length = y.length ∧ aheadB x y = true))) := by
 unfold beats
 simp only [Bool.or_eq_true, Bool.and_eq_true, decide_eq_true_eq, gt_iff_lt]
theorem beats_irrefl (c : Int → Int) (x : List Int) : ¬ beats c x x = true := by
 rw [beats_iff, ahead_irrefl]
 rintro (h | ⟨_, h | ⟨_, h⟩⟩)
 ·omega
 ·omega
 ·cases h
theorem beats_trans (c : Int → Int) (x y z : List Int) (h1 : beats c x y = true) (h2 : beats c y z = true) : beats c x z = true := by
 rw [beats_iff] at *
 rcases h1 with h1 | ⟨h1, h1' | ⟨h1', h1''⟩⟩ <;> rcases h2 with h2 | ⟨h2, h2' | ⟨h2', h2''⟩⟩
 ·exact .inl (by omega)
 ·exact .inl (by omega)
 ·exact .inl (by omega)
 ·exact .inl (by omega)
 ·exact .inr ⟨by omega, .inl (by omega)⟩
 ·exact .inr ⟨by omega, .inl (by omega)⟩
 ·exact .inl (by omega)
 ·exact .inr ⟨by omega, .inl (by omega)⟩
 ·exact .inr ⟨by omega, .inr ⟨by omega, ahead_trans x y z h1' h2' h1'' h2''⟩⟩
theorem beats_total (c : Int → Int) (x y : List Int) (h1 : ¬ beats c x y = true) (h2 : ¬ beats c y x = true) : x = y := by
 rw [beats_iff] at h1 h2
 have e1 : su c x = su c y := by
  rcases Int.lt_trichotomy (su c x) (su c y) with h | h | h
  ·exact absurd (.inl h) h2
  ·exact h
  ·exact absurd (.inl h) h1
 have e2 : x.length = y.length := by
  rcases Nat.lt_trichotomy x.length y.length with h | h | h
  ·exact absurd (.inr ⟨e1, .inl h⟩) h1
  ·exact h
  ·exact absurd (.inr ⟨e1.symm, .inl h⟩) h2
 refine ahead_total x y e2 ?_ ?_
 ·cases h : aheadB x y with
  | false => rfl
  | true => exact absurd (.inr ⟨e1, .inr ⟨e2, h⟩⟩) h1
 ·cases h : aheadB y x with
  | false => rfl
  | true => exact absurd (.inr ⟨e1.symm, .inr ⟨e2.symm, h⟩⟩) h2
theorem fold_max (c : Int → Int) : ∀ (xs : List (List Int)) (best : List Int), foldB c xs best ∈ best :: xs ∧ ∀ x, x ∈ best :: xs → ¬ beats c x (foldB c xs best) = true
 | [], best => ⟨by simp [foldB], fun x hx => by
   have : x = best := by simpa using hx
   subst this
   exact beats_irrefl c _⟩
 | y :: t, best => by
  rw [foldB]
  obtain ⟨h1, h2⟩ := fold_max c t (if beats c y best then y else best)
  by_cases hb : beats c y best = true
  ·rw [if_pos hb] at h1 h2 ⊢
   refine ⟨List.mem_cons_of_mem _ h1, fun x hx => ?_⟩
   rcases List.mem_cons.1 hx with rfl | hx
   ·intro h
    exact h2 y List.mem_cons_self (beats_trans c _ _ _ hb h)
   ·exact h2 x hx
  ·rw [if_neg hb] at h1 h2 ⊢
   refine ⟨?_, fun x hx => ?_⟩
   ·rcases List.mem_cons.1 h1 with h | h
    ·rw [h]; exact List.mem_cons_self
    ·exact List.mem_cons_of_mem _ (List.mem_cons_of_mem _ h)
   ·rcases List.mem_cons.1 hx with rfl | hx
    ·exact h2 _ List.mem_cons_self
    ·rcases List.mem_cons.1 hx with rfl | hx
     ·intro h
      have hn := h2 best List.mem_cons_self
      by_cases hm : beats c (foldB c t best) best = true
      ·exact hb (beats_trans c _ _ _ h hm)
      ·have := beats_total c _ _ hm hn
       rw [this] at h
       exact hb h
     ·exact h2 x (List.mem_cons_of_mem _ hx)
theorem fold_same (c : Int → Int) (xs ys : List (List Int)) (a : List Int) (h : ∀ x, x ∈ a :: xs ↔ x ∈ a :: ys) : foldB c xs a = foldB c ys a := by
 obtain ⟨h1, h2⟩ := fold_max c xs a
 obtain ⟨g1, g2⟩ := fold_max c ys a
 exact beats_total c _ _ (g2 _ ((h _).1 h1)) (h2 _ ((h _).2 g1))
def Good (c : Int → Int) (room : Int) (n : Nat) (x : List Int) : Prop := x.Pairwise (· < ·) ∧ (∀ j, j ∈ x → 0 ≤ j ∧ j < (n : Int) ∧ c j ≠ 0) ∧ (x = [] ∨ su c x ≤ room)
theorem good_step (c : Int → Int) (hc : ∀ j, 0 ≤ c j) (room : Int) (i : Nat) (x : List Int) : Good c room (i + 1) x ↔ Good c room i x ∨ (c i ≠ 0 ∧ ∃ y, Good c room i y ∧ su c y + c i ≤ room ∧ x = y ++ [(i : Int)]) := by
 constructor
 ·rintro ⟨h1, h2, h3⟩
  rcases List.eq_nil_or_concat x with rfl | ⟨y, a, rfl⟩
  ·exact .inl ⟨h1, (fun j hj => by cases hj), .inl rfl⟩
  ·rw [List.concat_eq_append] at *
   rw [List.pairwise_append] at h1
   obtain ⟨p1, _, p3⟩ := h1
   have ha := h2 a (by simp)
   have hs : su c (y ++ [a]) ≤ room := by
    rcases h3 with h3 | h3
    ·simp at h3
    ·exact h3
   by_cases e : a = (i : Int)
   ·subst e
    refine .inr ⟨ha.2.2, y, ⟨p1, fun j hj => ?_, ?_⟩, ?_, rfl⟩
    ·have := h2 j (by simp [hj])
     have := p3 j hj i (by simp)
     exact ⟨by omega, by omega, by omega⟩
    ·rw [su_append] at hs
     simp only [su] at hs
     have := hc (i : Int)
     exact .inr (by omega)
    ·rw [su_append] at hs
     simp only [su] at hs
     omega
   ·refine .inl ⟨?_, fun j hj => ?_, .inr hs⟩
    ·rw [List.pairwise_append]; exact ⟨p1, by simp, p3⟩
    ·have h4 := h2 j hj
     refine ⟨h4.1, ?_, h4.2.2⟩
     rcases List.mem_append.1 hj with hj | hj
     ·have := p3 j hj a (by simp); omega
     ·have : j = a := by simpa using hj
      omega
 ·rintro (⟨h1, h2, h3⟩ | ⟨h0, y, ⟨h1, h2, h3⟩, h4, rfl⟩)
  ·exact ⟨h1, fun j hj => by have := h2 j hj; exact ⟨by omega, by omega, this.2.2⟩, h3⟩
  ·refine ⟨?_, fun j hj => ?_, .inr ?_⟩
   ·rw [List.pairwise_append]
    exact ⟨h1, by simp, fun j hj k hk => by
     have hk' : k = (i : Int) := by simpa using hk
     have := h2 j hj; omega⟩
   ·rcases List.mem_append.1 hj with hj | hj
    ·have := h2 j hj; exact ⟨by omega, by omega, this.2.2⟩
    ·have : j = (i : Int) := by simpa using hj
     subst this
     exact ⟨by omega, by omega, h0⟩
   ·rw [su_append]; simp only [su]; omega
theorem allL_good (c : Int → Int) (hc : ∀ j, 0 ≤ c j) (room : Int) : ∀ (d i : Nat) (out : List (List Int)), (∀ x, x ∈ out ↔ Good c room i x) → ∀ x, x ∈ allL c room d i out ↔ Good c room (i + d) x := by
 intro d
 induction d with
 | zero => intro i out h x; exact h x
 | succ d ih =>
  intro i out h x
  rw [allL, show i + (d + 1) = i + 1 + d by omega]
  by_cases e : c i = 0
  ·rw [if_pos e]
   refine ih (i + 1) out (fun x => ?_) x
   rw [good_step c hc, h x]
   exact ⟨.inl, fun h => h.resolve_right fun h => h.1 e⟩
  ·rw [if_neg e]
   refine ih (i + 1) _ (fun x => ?_) x
   rw [good_step c hc, List.mem_append, h x, List.mem_map]
   constructor
   ·rintro (h1 | ⟨y, hy, rfl⟩)
    ·exact .inl h1
    ·rw [List.mem_filter, h y, decide_eq_true_eq] at hy
     exact .inr ⟨e, y, hy.1, hy.2, rfl⟩
   ·rintro (h1 | ⟨_, y, hy, hs, rfl⟩)
    ·exact .inl h1
    ·exact .inr ⟨y, by rw [List.mem_filter, h y, decide_eq_true_eq]; exact ⟨hy, hs⟩, rfl⟩
theorem good_zero (c : Int → Int) (room : Int) (x : List Int) : x ∈ [([] : List Int)] ↔ Good c room 0 x := by
 rw [List.mem_singleton]
 constructor
 ·rintro rfl; exact ⟨List.Pairwise.nil, (fun j hj => by cases hj), .inl rfl⟩
 ·rintro ⟨_, h, _⟩
  cases x with
  | nil => rfl
  | cons a t => have := h a List.mem_cons_self; omega
def maskL (c : Int → Int) (room : Int) (n : Nat) : Nat → Nat → List (List Int)
 | 0, _ => []
 | d + 1, M => if mc c M n 0 0 ≤ room then ms M n 0 :: maskL c room n d (M + 1) else maskL c room n d (M + 1)
theorem maskL_mem (c : Int → Int) (room : Int) (n : Nat) (x : List Int) : ∀ (d M : Nat), x ∈ maskL c room n d M ↔ ∃ m, M ≤ m ∧ m < M + d ∧ mc c m n 0 0 ≤ room ∧ x = ms m n 0
 | 0, M => by
  simp only [maskL, List.not_mem_nil, false_iff]
  rintro ⟨m, h1, h2, _⟩; omega
 | d + 1, M => by
  rw [maskL]
  have ih := maskL_mem c room n x d (M + 1)
  by_cases h : mc c M n 0 0 ≤ room
  ·rw [if_pos h, List.mem_cons, ih]
   constructor
   ·rintro (rfl | ⟨m, h1, h2, h3⟩)
    ·exact ⟨M, Nat.le_refl _, by omega, h, rfl⟩
    ·exact ⟨m, by omega, by omega, h3⟩
   ·rintro ⟨m, h1, h2, h3, h4⟩
    by_cases e : m = M
    ·subst e; exact .inl h4
    ·exact .inr ⟨m, by omega, by omega, h3, h4⟩
  ·rw [if_neg h, ih]
   constructor
   ·rintro ⟨m, h1, h2, h3⟩; exact ⟨m, by omega, by omega, h3⟩
   ·rintro ⟨m, h1, h2, h3, h4⟩
    by_cases e : m = M
    ·subst e; exact absurd h3 h
    ·exact ⟨m, by omega, by omega, h3, h4⟩
theorem mc_can (c : Int → Int) (room : Int) (hr : room ≤ 64) (M n : Nat) (h : mc c M n 0 0 ≤ room) : (∀ j, j ∈ ms M n 0 → c j ≠ 0) ∧ mc c M n 0 0 = su c (ms M n 0) := by
 have h0 : ∀ j, j ∈ ms M n 0 → c j ≠ 0 := by
  intro j hj h0
  rw [mc_bad c M n 0 0 ⟨j, hj, h0⟩] at h
  omega
 refine ⟨h0, ?_⟩
 rw [mc_ms c M n 0 0 h0]; omega
theorem mask_good (c : Int → Int) (hc : ∀ j, 0 ≤ c j) (room : Int) (hr : room ≤ 64) (n : Nat) (x : List Int) : x ∈ [] :: maskL c room n (2 ^ n - 1) 1 ↔ Good c room n x := by
 rw [List.mem_cons, maskL_mem]
 constructor
 ·rintro (rfl | ⟨m, h1, h2, h3, rfl⟩)
  ·exact ⟨List.Pairwise.nil, (fun j hj => by cases hj), .inl rfl⟩
  ·obtain ⟨g1, g2⟩ := mc_can c room hr m n h3
   refine ⟨ms_sorted m n 0, fun j hj => ?_, .inr (by omega)⟩
   obtain ⟨k, rfl, _, hk, _⟩ := (ms_mem m n 0 j).1 hj
   exact ⟨by omega, by omega, g1 _ hj⟩
 ·rintro ⟨h1, h2, h3⟩
  by_cases e : x = []
  ·exact .inl e
  ·have h3 : su c x ≤ room := h3.resolve_left e
   obtain ⟨M, hM1, hM2⟩ := mask_of (fun i => decide ((i : Int) ∈ x)) n
   have hx : x = ms M n 0 := by
    refine sorted_ext h1 (ms_sorted M n 0) (fun j => ?_)
    rw [ms_mem]
    constructor
    ·intro hj
     have := h2 j hj
     refine ⟨j.toNat, by omega, by omega, by omega, ?_⟩
     rw [hM2 j.toNat (by omega), show ((j.toNat : Nat) : Int) = j by omega]
     simpa using hj
    ·rintro ⟨k, rfl, _, hk, hb⟩
     rw [hM2 k (by omega)] at hb
     simpa using hb
   have hM0 : M ≠ 0 := by
    rintro rfl
    rw [ms_zero] at hx
    exact e hx
   refine .inr ⟨M, by omega, by omega, ?_, hx⟩
   rw [mc_ms c M n 0 0 (fun j hj => (h2 j (by rw [hx]; exact hj)).2.2), ← hx]
   omega
def tie (x y : List Int) : Bool := decide (x.length < y.length) || (decide (x.length = y.length) && aheadB x y)
set_option maxRecDepth 100000 in
theorem better_tie : ∀ M, M < 128 → ∀ B, B < 128 → quota_choice_better.f (M : Nat) 0 (B : Nat) 0 = some (tie (ms M 7 0) (ms B 7 0)) := by decide +kernel
theorem ms_seven (M : Nat) : ∀ (d i e : Nat), M < 2 ^ (i + d) → ms M (d + e) i = ms M d i
 | 0, i, e, h => by
  rw [Nat.zero_add]
  induction e generalizing i with
  | zero => rfl
  | succ e ih =>
   have hb : bit M i = false := by
    unfold bit
    rw [Nat.div_eq_of_lt (by simpa using h)]; rfl
   rw [show ms M (e + 1) i = if bit M i = false then ms M e (i + 1) else (i : Int) :: ms M e (i + 1) from rfl, if_pos hb]
   exact (ih (i + 1) (by rw [Nat.add_zero] at *; rw [Nat.pow_succ]; omega)).trans rfl
 | d + 1, i, e, h => by
  have ih := ms_seven M d (i + 1) e (by rw [show i + 1 + d = i + (d + 1) by omega]; exact h)
  rw [show d + 1 + e = (d + e) + 1 by omega, ms, ms, ih]
theorem better_eq (n M B : Nat) (hn : n ≤ 7) (hM : M < 2 ^ n) (hB : B < 2 ^ n) (c : Int → Int) : quota_choice_better.f (M : Int) (su c (ms M n 0)) (B : Int) (su c (ms B n 0)) = some (beats c (ms M n 0) (ms B n 0)) := by
 have hp : 2 ^ n ≤ 2 ^ 7 := Nat.pow_le_pow_right (by decide) hn
 have h := better_tie M (by omega) B (by omega)
 obtain ⟨e, he⟩ : ∃ e, 7 = n + e := ⟨7 - n, by omega⟩
 have e1 := ms_seven M n 0 e (by simpa using hM)
 have e2 := ms_seven B n 0 e (by simpa using hB)
 rw [he, e1, e2] at h
 unfold beats
 unfold quota_choice_better.f at h ⊢
 rw [if_pos rfl] at h
 by_cases hs : su c (ms M n 0) = su c (ms B n 0)
 ·rw [if_pos hs, h, hs]
  simp [tie]
 ·rw [if_neg hs, decide_eq_false hs]
  simp
section
variable (l : List W) (p b : Int) (hl : l.length ≤ 7)
include hl
theorem qfull_l2 (B : Nat) (hB : B < 128) (bc : Int) : ∀ (d i : Nat) (acc : List Int), i + d = l.length → acc.length ≤ i →
  Ev (fun k => quota_Fullest.l2 k acc (l.length : Int) (i : Int) (B : Int) bc) (acc ++ ms B d i) := by
 intro d
 induction d with
 | zero =>
  intro i acc hi ha
  refine ev_succ (fun k => by rw [quota_Fullest.l2]) ?_
  simp only [if_neg (show ¬ (i : Int) < (l.length : Int) by omega), ms, List.append_nil]
  exact ev_const _
 | succ d ih =>
  intro i acc hi ha
  refine ev_succ (fun k => by rw [quota_Fullest.l2]) ?_
  simp only [if_pos (show (i : Int) < (l.length : Int) by omega), if_pos (wrap_u64_nonneg (i : Int)), bit_test B i (by omega) (by omega), nx (j := i) (by omega)]
  rw [ms]
  cases hbit : bit B i with
  | true =>
   simp only [if_true, Bool.true_eq_false, if_false, if_pos (show acc.length < 17592186044416 by omega)]
   have := ih (i + 1) (acc ++ [(i : Int)]) (by omega) (by simp; omega)
   simpa only [List.append_assoc, List.singleton_append] using this
  | false =>
   simp only [Bool.false_eq_true, if_false, if_neg (show ¬ (0 : Int) = 1 by decide), if_true]
   exact ih (i + 1) acc (by omega) (by omega)
theorem qfull_l1 (M B : Nat) (hM : M < 128) (bc : Int) (r : List Int)
  (H : Ev (fun k => if mc (ci l p) M l.length 0 0 ≤ min b 64 then ((quota_choice_better.f (M : Int) (mc (ci l p) M l.length 0 0) (B : Int) bc).bind fun t115 => (if t115 = true then (quota_Fullest.l0 k l b p (IntKind.u64.wrap ((M : Int) + 1)) (M : Int) (mc (ci l p) M l.length 0 0)) else (quota_Fullest.l0 k l b p (IntKind.u64.wrap ((M : Int) + 1)) (B : Int) bc))) else (quota_Fullest.l0 k l b p (IntKind.u64.wrap ((M : Int) + 1)) (B : Int) bc)) r) :
  ∀ (d i : Nat) (acc : Int), i + d = l.length → 0 ≤ acc → acc ≤ 42 * (i : Int) → mc (ci l p) M d i acc = mc (ci l p) M l.length 0 0 →
  Ev (fun k => quota_Fullest.l1 k l b p (M : Int) l (l.length : Int) (i : Int) (B : Int) bc (M : Int) acc) r := by
 intro d
 induction d with
 | zero =>
  intro i acc hi h0 h1 he
  refine ev_succ (fun k => by rw [quota_Fullest.l1]) ?_
  simp only [if_neg (show ¬ (i : Int) < (l.length : Int) by omega), mn_min]
  rw [mc] at he
  rw [he]
  exact H
 | succ d ih =>
  intro i acc hi h0 h1 he
  refine ev_succ (fun k => by rw [quota_Fullest.l1]) ?_
  simp only [if_pos (show (i : Int) < (l.length : Int) by omega), if_pos (show (0 : Int) ≤ (i : Int) by omega), if_pos (wrap_u64_nonneg (i : Int)), bit_test M i (by omega) (by omega), nx (j := i) (by omega), mn_min]
  rw [mc] at he
  cases hbit : bit M i with
  | false =>
   rw [hbit, if_pos rfl] at he
   simp only [Bool.false_eq_true, if_false, if_true]
   exact ih (i + 1) acc (by omega) h0 (by omega) he
  | true =>
   rw [hbit, if_neg (by decide)] at he
   simp only [if_true, if_neg (show ¬ (1 : Int) = 0 by decide)]
   refine ev_bind (ev_of (cost_f p _)) ?_
   have hb := ci_bd_all l p (i : Int)
   show Ev (fun k => if ci l p (i : Int) = 0 then _ else _) r
   by_cases e0 : ci l p (i : Int) = 0
   ·rw [if_pos e0] at he
    refine ev_pos e0 ?_
    rw [← he] at H
    exact H
   ·rw [if_neg e0] at he
    refine ev_neg e0 ?_
    have e : wrap64 (acc + cst p (rd_T34 l (i : Int))) = acc + ci l p (i : Int) := w64 (by show _ ≤ acc + ci l p (i : Int); omega) (by show acc + ci l p (i : Int) ≤ _; omega)
    rw [e]
    exact ih (i + 1) _ (by omega) (by omega) (by omega) he
theorem qfull_l0 : ∀ (d M B : Nat), M + d = 2 ^ l.length → 1 ≤ M → B < 2 ^ l.length →
  Ev (fun k => quota_Fullest.l0 k l b p (M : Int) (B : Int) (su (ci l p) (ms B l.length 0))) (foldB (ci l p) (maskL (ci l p) (min b 64) l.length d M) (ms B l.length 0)) := by
 have hpow : 2 ^ l.length ≤ 2 ^ 7 := Nat.pow_le_pow_right (by decide) hl
 intro d
 induction d with
 | zero =>
  intro M B hM h1 hB
  refine ev_succ (fun k => by rw [quota_Fullest.l0]) ?_
  have e : (shr .u64 (M : Int) (IntKind.u64.wrap ((l.length : Int)))) = 1 := by
   rw [shr_nat M l.length (by omega), show M = 2 ^ l.length by omega, Nat.div_self (Nat.two_pow_pos _)]; rfl
  simp only [if_pos (wrap_u64_nonneg (l.length : Int)), e, if_neg (show ¬ (1 : Int) = 0 by decide)]
  exact qfull_l2 l hl B (by omega) _ l.length 0 [] (by omega) (by simp)
 | succ d ih =>
  intro M B hM h1 hB
  have hw : IntKind.u64.wrap ((M : Int) + 1) = ((M + 1 : Nat) : Int) := wrap_u64 M (by omega)
  have e : (shr .u64 (M : Int) (IntKind.u64.wrap ((l.length : Int)))) = 0 := by
   rw [shr_nat M l.length (by omega), Nat.div_eq_of_lt (by omega)]; rfl
  refine ev_succ (fun k => by rw [quota_Fullest.l0]) ?_
  simp only [if_pos (wrap_u64_nonneg (l.length : Int)), e, if_true]
  refine qfull_l1 l p b hl M B (by omega) _ _ ?_ l.length 0 0 (by omega) (by omega) (by omega) rfl
  rw [maskL]
  by_cases hc : mc (ci l p) M l.length 0 0 ≤ min b 64
  ·obtain ⟨_, hmc⟩ := mc_can (ci l p) (min b 64) (by omega) M l.length hc
   rw [if_pos hc, foldB]
   refine ev_pos hc ?_
   rw [hmc]
   refine ev_bind (ev_of (better_eq l.length M B hl (by omega) hB _)) ?_
   rw [hw]
   cases beats (ci l p) (ms M l.length 0) (ms B l.length 0) with
   | true => simp only [if_true]; exact ih (M + 1) M (by omega) (by omega) (by omega)
   | false => simp only [Bool.false_eq_true, if_false]; exact ih (M + 1) B (by omega) (by omega) hB
  ·rw [if_neg hc]
   refine ev_neg hc ?_
   rw [hw]
   exact ih (M + 1) B (by omega) (by omega) hB
theorem qfull_ok : Ev (fun k => quota_Fullest.f k l b p) (foldB (ci l p) (allL (ci l p) (min b 64) l.length 0 [[]]) []) := by
 have hc : ∀ j, 0 ≤ ci l p j := fun j => (ci_bd_all l p j).1
 have e : foldB (ci l p) (allL (ci l p) (min b 64) l.length 0 [[]]) [] = foldB (ci l p) (maskL (ci l p) (min b 64) l.length (2 ^ l.length - 1) 1) [] := by
  refine fold_same _ _ _ _ (fun x => ?_)
  have h1 := allL_good (ci l p) hc (min b 64) l.length 0 [[]] (good_zero _ _) x
  rw [Nat.zero_add] at h1
  rw [mask_good (ci l p) hc (min b 64) (by omega) l.length x, List.mem_cons, h1]
  constructor
  ·rintro (rfl | h)
   ·exact ⟨List.Pairwise.nil, (fun j hj => by cases hj), .inl rfl⟩
   ·exact h
  ·exact .inr
 rw [e]
 have h0 := qfull_l0 l p b hl (2 ^ l.length - 1) 1 0 (by have := Nat.two_pow_pos l.length; omega) (by omega) (Nat.two_pow_pos _)
 rw [ms_zero] at h0
 unfold quota_Fullest.f
 simp only [if_neg (show ¬ (l.length : Int) > 12 by omega)]
 exact h0
end
theorem same_ok (x : List Int) (hx : x.length ≤ 100000) : Ev (fun k => almshouselaw41_same.f k x x) true := by
 unfold almshouselaw41_same.f
 have key : ∀ (d i : Nat), i + d = x.length → Ev (fun k => almshouselaw41_same.l0 k x x (x.length : Int) (i : Int)) true := by
  intro d
  induction d with
  | zero =>
   intro i hi
   refine ev_succ (fun k => by rw [almshouselaw41_same.l0]) ?_
   simp only [if_neg (show ¬ (i : Int) < (x.length : Int) by omega)]
   exact ev_const _
  | succ d ih =>
   intro i hi
   refine ev_succ (fun k => by rw [almshouselaw41_same.l0]) ?_
   simp only [if_pos (show (i : Int) < (x.length : Int) by omega), if_pos (show (0 : Int) ≤ (i : Int) by omega), if_true, nx (j := i) (by omega)]
   exact ih (i + 1) (by omega)
 simp only [if_true]
 exact key x.length 0 (by omega)
theorem full_len (l : List W) (p b : Int) (hl : l.length ≤ 12) : (foldB (ci l p) (allL (ci l p) (min b 64) l.length 0 [[]]) []).length ≤ 12 := by
 have h := (fold_max (ci l p) (allL (ci l p) (min b 64) l.length 0 [[]]) []).1
 have inv := allL_inv (ci l p) (min b 64) l.length 0 [[]] (fun x h => by
   have : x = [] := by simpa using h
   subst this
   exact ⟨Nat.le_refl _, fun j hj => by cases hj⟩) (by simp)
 rcases List.mem_cons.1 h with h | h
 ·rw [h]; simp
 ·have := (inv.1 _ h).1; omega
theorem both_ok (l : List W) (a1 a2 : Int) (hl : l.length ≤ 7 ∨ (12 < l.length ∧ l.length ≤ 1000)) : ∃ r, r.length ≤ 12 ∧ Ev (fun k => quota_Fullest.f k l a1 a2) r ∧ Ev (fun k => almshouseref41_Fullest.f k (wl l) a1 a2) r := by
 have h2 := rfull_ok l a2 a1
 rcases hl with hl | hl
 ·rw [if_neg (by omega)] at h2
  exact ⟨_, full_len l a2 a1 (by omega), qfull_ok l a2 a1 hl, h2⟩
 ·rw [if_pos hl.1] at h2
  refine ⟨[], by simp, ?_, h2⟩
  unfold quota_Fullest.f
  simp only [if_pos (show (l.length : Int) > 12 by omega)]
  exact ev_const _
theorem QuotaFullest_j1 (l : List W) (a1 a2 : Int) (hl : l.length ≤ 7 ∨ (12 < l.length ∧ l.length ≤ 1000)) : Ev (fun k => almshouselaw41_QuotaFullest.j1 k l a1 a2) true := by
 obtain ⟨r, hr, h1, h2⟩ := both_ok l a1 a2 hl
 refine ev_succ (fun k => by rw [almshouselaw41_QuotaFullest.j1]) ?_
 refine ev_bind h1 ?_
 refine ev_bind (wishes_ok l (by omega)) ?_
 refine ev_bind h2 ?_
 refine ev_bind (same_ok r (by omega)) ?_
 exact ev_const _
theorem QuotaFullest_ev (l : List W) (a1 a2 : Int) : Ev (fun k => almshouselaw41_QuotaFullest.f k l a1 a2) true := by
 unfold almshouselaw41_QuotaFullest.f
 refine ev_bind fixed_ok ?_
 simp only [if_true]
 by_cases h14 : (l.length : Int) > 14
 ·simp only [if_pos h14]; exact ev_const _
 ·simp only [if_neg h14]
  by_cases h7 : (l.length : Int) > 7
  ·simp only [if_pos h7]
   refine ev_succ (fun k => by rw [almshouselaw41_QuotaFullest.j0]) ?_
   by_cases h12 : (l.length : Int) ≤ 12
   ·simp only [decide_eq_true h12, if_true, if_pos (show 7 ≤ (l.length : Int) by omega)]
    exact QuotaFullest_j1 _ a1 a2 (.inl (by simp; omega))
   ·simp only [decide_eq_false h12, Bool.false_eq_true, if_false]
    exact QuotaFullest_j1 _ a1 a2 (.inr (by omega))
  ·simp only [if_neg h7]
   refine ev_succ (fun k => by rw [almshouselaw41_QuotaFullest.j0]) ?_
   simp only [Bool.false_eq_true, if_false]
   exact QuotaFullest_j1 _ a1 a2 (.inl (by omega))
end Go.Proofs.Ytpcpllabegfdjaa.Qt
