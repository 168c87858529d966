-- Cut by a program of this session (wip/pr/pack.py) to what one claim needs.
import Derived.Laws.BitsAllLaws
import Derived.Test.YtpcpllabegfdjaaBQuota
import Derived.Test.YtpcpllabegfdjaaBPx0
import Derived.Test.YtpcpllabegfdjaaBPx10
import Derived.Test.YtpcpllabegfdjaaBPx13
import Derived.Test.YtpcpllabegfdjaaBPx14
import Derived.Test.YtpcpllabegfdjaaBPx20
import Derived.Test.YtpcpllabegfdjaaBPx23
import Derived.Test.YtpcpllabegfdjaaBXM
namespace Go.Proofs.Ytpcpllabegfdjaa.Qt
open Go.RowKit Go.Proofs.YtpcpllabegfdjaaW.PrintWords Go.Proofs.YtpcpllabegfdjaaW.PrintLast Go.Proofs.YtpcpllabegfdjaaW.PrintMore Go.Proofs.Ytpcpllabegfdjaa.P Go.Proofs.Ytpcpllabegfdjaa.X Go.Proofs.Ytpcpllabegfdjaa.Gen
set_option linter.unusedVariables false
set_option linter.unusedSimpArgs false
set_option linter.unusedSectionVars false
def bit (M i : Nat) : Bool := decide (M / 2 ^ i % 2 = 1)
theorem shr_nat (M i : Nat) (hi : i ≤ 64) : shr .u64 (M : Int) (IntKind.u64.wrap (i : Int)) = ((M / 2 ^ i : Nat) : Int) := by
 have e : IntKind.u64.wrap (i : Int) = (i : Int) := by unfold IntKind.wrap; simp [IntKind.bits, IntKind.signed]; omega
 unfold shr
 rw [e, Int.toNat_natCast, Nat.min_eq_left (by show i ≤ 64; exact hi)]
 rw [Int.natCast_ediv, Int.natCast_pow]; rfl
theorem and_one (M : Nat) (h : M < 18446744073709551616) : Go.bits .and .u64 (M : Int) 1 = ((M % 2 : Nat) : Int) := by
 have := u64_and_nat M 1 h (by decide)
 rw [show ((1 : Nat) : Int) = 1 from rfl] at this
 rw [this, Nat.and_one_is_mod]
theorem bit_test (M i : Nat) (h : M < 18446744073709551616) (hi : i ≤ 64) : (Go.bits .and .u64 (shr .u64 (M : Int) (IntKind.u64.wrap (i : Int))) 1) = if bit M i then 1 else 0 := by
 rw [shr_nat M i hi, and_one _ (Nat.lt_of_le_of_lt (Nat.div_le_self _ _) h)]
 unfold bit
 have := Nat.mod_two_eq_zero_or_one (M / 2 ^ i)
 by_cases e : M / 2 ^ i % 2 = 1
 ·simp [e]
 ·have e0 : M / 2 ^ i % 2 = 0 := by omega
  rw [e0]; simp
theorem wrap_u64 (M : Nat) (h : M + 1 < 18446744073709551616) : IntKind.u64.wrap ((M : Int) + 1) = ((M + 1 : Nat) : Int) := by
 unfold IntKind.wrap; simp [IntKind.bits, IntKind.signed]; omega
theorem wrap_u64_nonneg (x : Int) : 0 ≤ IntKind.u64.wrap x := by
 unfold IntKind.wrap; simp [IntKind.bits, IntKind.signed]; omega
def mc (c : Int → Int) (M : Nat) : Nat → Nat → Int → Int
 | 0, _, acc => acc
 | d + 1, i, acc => if bit M i = false then mc c M d (i + 1) acc else if c i = 0 then 65 else mc c M d (i + 1) (acc + c i)
def ms (M : Nat) : Nat → Nat → List Int
 | 0, _ => []
 | d + 1, i => if bit M i = false then ms M d (i + 1) else (i : Int) :: ms M d (i + 1)
theorem mc_ms (c : Int → Int) (M : Nat) : ∀ (d i : Nat) (acc : Int), (∀ j, j ∈ ms M d i → c j ≠ 0) → mc c M d i acc = acc + su c (ms M d i)
 | 0, i, acc, _ => by simp [mc, ms, su]
 | d + 1, i, acc, h => by
  rw [mc, ms]
  rw [ms] at h
  by_cases e : bit M i = false
  ·rw [if_pos e, if_pos e]; rw [if_pos e] at h; exact mc_ms c M d (i + 1) acc h
  ·rw [if_neg e, if_neg e]; rw [if_neg e] at h
   rw [if_neg (h _ List.mem_cons_self), mc_ms c M d (i + 1) _ (fun j hj => h j (List.mem_cons_of_mem _ hj))]
   simp only [su]; omega
theorem mc_bad (c : Int → Int) (M : Nat) : ∀ (d i : Nat) (acc : Int), (∃ j, j ∈ ms M d i ∧ c j = 0) → mc c M d i acc = 65
 | 0, i, acc, h => by obtain ⟨j, hj, _⟩ := h; simp [ms] at hj
 | d + 1, i, acc, h => by
  rw [mc]
  rw [ms] at h
  obtain ⟨j, hj, h0⟩ := h
  by_cases e : bit M i = false
  ·rw [if_pos e]; rw [if_pos e] at hj; exact mc_bad c M d (i + 1) acc ⟨j, hj, h0⟩
  ·rw [if_neg e]; rw [if_neg e] at hj
   by_cases e0 : c i = 0
   ·rw [if_pos e0]
   ·rw [if_neg e0]
    rcases List.mem_cons.1 hj with rfl | hj
    ·exact absurd h0 e0
    ·exact mc_bad c M d (i + 1) _ ⟨j, hj, h0⟩
theorem ms_mem (M : Nat) : ∀ (d i : Nat) (j : Int), j ∈ ms M d i ↔ ∃ k : Nat, j = k ∧ i ≤ k ∧ k < i + d ∧ bit M k = true
 | 0, i, j => by
  simp only [ms, List.not_mem_nil, false_iff]
  rintro ⟨k, _, h1, h2, _⟩; omega
 | d + 1, i, j => by
  rw [ms]
  by_cases e : bit M i = false
  ·rw [if_pos e, ms_mem M d (i + 1) j]
   constructor
   ·rintro ⟨k, h0, h1, h2, h3⟩; exact ⟨k, h0, by omega, by omega, h3⟩
   ·rintro ⟨k, h0, h1, h2, h3⟩
    by_cases ek : k = i
    ·subst ek; rw [e] at h3; cases h3
    ·exact ⟨k, h0, by omega, by omega, h3⟩
  ·rw [if_neg e, List.mem_cons, ms_mem M d (i + 1) j]
   constructor
   ·rintro (rfl | ⟨k, h0, h1, h2, h3⟩)
    ·exact ⟨i, rfl, Nat.le_refl _, by omega, by simpa using e⟩
    ·exact ⟨k, h0, by omega, by omega, h3⟩
   ·rintro ⟨k, h0, h1, h2, h3⟩
    by_cases ek : k = i
    ·subst ek; exact .inl h0
    ·exact .inr ⟨k, h0, by omega, by omega, h3⟩
theorem ms_sorted (M : Nat) : ∀ (d i : Nat), (ms M d i).Pairwise (· < ·)
 | 0, _ => List.Pairwise.nil
 | d + 1, i => by
  rw [ms]
  split
  ·exact ms_sorted M d (i + 1)
  ·rw [List.pairwise_cons]
   refine ⟨fun j hj => ?_, ms_sorted M d (i + 1)⟩
   obtain ⟨k, rfl, h1, _, _⟩ := (ms_mem M d (i + 1) j).1 hj
   omega
theorem mask_of (P : Nat → Bool) : ∀ n, ∃ M, M < 2 ^ n ∧ ∀ i, i < n → bit M i = P i
 | 0 => ⟨0, by decide, fun i hi => by omega⟩
 | n + 1 => by
  obtain ⟨M, hM, h⟩ := mask_of P n
  refine ⟨M + (if P n then 2 ^ n else 0), ?_, fun i hi => ?_⟩
  ·rw [Nat.pow_succ]; split <;> omega
  ·by_cases e : i = n
   ·subst e
    unfold bit
    cases P i with
    | true => simp only [if_true, Nat.add_div_right _ (Nat.two_pow_pos i), Nat.div_eq_of_lt hM]; rfl
    | false => simp only [Bool.false_eq_true, if_false, Nat.add_zero, Nat.div_eq_of_lt hM]; rfl
   ·rw [← h i (by omega)]
    unfold bit
    cases P n with
    | true =>
     simp only [if_true]
     have hp : 2 ^ n = 2 ^ i * (2 * 2 ^ (n - i - 1)) := by
      rw [← Nat.pow_succ', ← Nat.pow_add]; congr 1; omega
     rw [hp, Nat.add_mul_div_left _ _ (Nat.two_pow_pos i), Nat.add_mul_mod_self_left]
    | false => simp only [Bool.false_eq_true, if_false, Nat.add_zero]
section
variable (l : List W) (p b : Int) (hp : 2 ≤ p ∧ p ≤ 16) (hl : l.length ≤ 12)
include hp hl
omit hp hl in
theorem ms_zero : ∀ (d i : Nat), ms 0 d i = []
 | 0, _ => rfl
 | d + 1, i => by rw [ms, if_pos (by unfold bit; simp)]; exact ms_zero d (i + 1)
end
abbrev V := S42
theorem wishes_ok (l : List W) (hl : l.length ≤ 1000) : Ev (fun k => almshouselaw41_wishes.f k l) (l.map fun x => (⟨x.f0, x.f1⟩ : V)) := by
 unfold almshouselaw41_wishes.f
 have key : ∀ (d i : Nat), i + d = l.length → Ev (fun k => almshouselaw41_wishes.l0 k ((l.take i).map fun x => (⟨x.f0, x.f1⟩ : V)) l (l.length : Int) (i : Int)) (l.map fun x => (⟨x.f0, x.f1⟩ : V)) := by
  intro d
  induction d with
  | zero =>
   intro i hi
   obtain rfl : i = l.length := by omega
   refine ev_succ (fun k => by rw [almshouselaw41_wishes.l0]) ?_
   simp only [Int.lt_irrefl, if_false, List.take_length]
   exact ev_const _
  | succ d ih =>
   intro i hi
   have hlt : i < l.length := by omega
   refine ev_succ (fun k => by rw [almshouselaw41_wishes.l0]) ?_
   have e : rd_T34 l (i : Int) = l[i] := by unfold rd_T34; rw [List.getD_eq_getElem?_getD, Int.toNat_natCast, List.getElem?_eq_getElem hlt]; rfl
   simp only [if_pos (show (i : Int) < (l.length : Int) by omega), if_pos (show (0 : Int) ≤ (i : Int) by omega), e, nx (j := i) (by omega)]
   simp only [if_pos (show ((l.take i).map fun x => (⟨x.f0, x.f1⟩ : V)).length < 8796093022208 by simp; omega)]
   have := ih (i + 1) (by omega)
   rw [List.take_succ_eq_append_getElem hlt, List.map_append] at this
   exact this
 exact key l.length 0 (by omega)
theorem sort_id {a : List Int} (h : a.Pairwise (· ≤ ·)) : (a.mergeSort fun x y => decide (x ≤ y)) = a := sorted_perm (sort_sorted _) h (List.mergeSort_perm _ _)
theorem fullest_mono (l : List W) (a b : Int) (k0 : Nat) (r : List Int) (h : quota_Fullest.f k0 l a b = some r) : Ev (fun k => quota_Fullest.f k l a b) r :=
 ⟨k0, fun k hk => by
  have : ∀ d, quota_Fullest.f (k0 + d) l a b = some r := by
   intro d
   induction d with
   | zero => exact h
   | succ d ih => exact quota_Fullest.mono l a b (k0 + d) _ ih
  rw [show k = k0 + (k - k0) by omega]; exact this _⟩
theorem fixed_ok : Ev (fun k => almshouselaw41_fixed.f k) true := by
 have hp : (2 : Int) ≤ 4 ∧ (4 : Int) ≤ 16 := by decide
 have c0 : ci [⟨8, 0⟩, ⟨3, 0⟩, ⟨1, 1⟩] 4 0 = 4 := by decide +kernel
 have c1 : ci [⟨8, 0⟩, ⟨3, 0⟩, ⟨1, 1⟩] 4 1 = 2 := by decide +kernel
 have c2 : ci [⟨8, 0⟩, ⟨3, 0⟩, ⟨1, 1⟩] 4 2 = 3 := by decide +kernel
 have hf := first_ok [⟨8, 0⟩, ⟨3, 0⟩, ⟨1, 1⟩] 4 6 hp (by decide) (by decide)
 have ef : gr (ci [⟨8, 0⟩, ⟨3, 0⟩, ⟨1, 1⟩] 4) (rng ([⟨8, 0⟩, ⟨3, 0⟩, ⟨1, 1⟩] : List W).length) (min 6 64) = [0, 1] := by
  show gr _ [0, 1, 2] 6 = _
  simp [gr, c0, c1, c2]
 rw [ef, sort_id (by decide)] at hf
 have ho : ord [⟨8, 0⟩, ⟨3, 0⟩, ⟨1, 1⟩] 4 = [1, 2, 0] := by
  refine List.Perm.eq_of_pairwise (le := fun a b => ci [⟨8, 0⟩, ⟨3, 0⟩, ⟨1, 1⟩] 4 a ≤ ci [⟨8, 0⟩, ⟨3, 0⟩, ⟨1, 1⟩] 4 b) ?_ (ord_sorted _ _) (by simp [c0, c1, c2]) ((ord_perm _ _).trans (by decide))
  intro a b ha hb h1 h2
  have ha' : a = 0 ∨ a = 1 ∨ a = 2 := by have := (rng_mem _ _).1 ((ord_perm _ _).mem_iff.1 ha); simp at this; omega
  have hb' : b = 0 ∨ b = 1 ∨ b = 2 := by simp at hb; omega
  rcases ha' with rfl | rfl | rfl <;> rcases hb' with rfl | rfl | rfl <;> simp only [c0, c1, c2] at h1 h2 <;> first | rfl | omega
 have hm := most_ok [⟨8, 0⟩, ⟨3, 0⟩, ⟨1, 1⟩] 4 6 hp (by decide) (by decide)
 have em : gr (ci [⟨8, 0⟩, ⟨3, 0⟩, ⟨1, 1⟩] 4) (ord [⟨8, 0⟩, ⟨3, 0⟩, ⟨1, 1⟩] 4) (min 6 64) = [1, 2] := by
  rw [ho]
  show gr _ [1, 2, 0] 6 = _
  simp [gr, c0, c1, c2]
 rw [em, sort_id (by decide)] at hm
 have hF : Ev (fun k => quota_Fullest.f k [⟨8, 0⟩, ⟨3, 0⟩, ⟨1, 1⟩] 6 4) [0, 1] := fullest_mono _ _ _ 60 _ (by decide +kernel)
 have hn := first_ok [] 4 9 hp (by decide) (by decide)
 have en : gr (ci [] 4) (rng ([] : List W).length) (min 9 64) = [] := rfl
 rw [en, sort_id List.Pairwise.nil] at hn
 unfold almshouselaw41_fixed.f
 simp only [Option.bind_some]
 refine ev_bind hf ?_
 refine ev_bind hm ?_
 refine ev_bind hF ?_
 simp only [List.length_cons, List.length_nil]
 rw [show rd_T34 [⟨8, 0⟩, ⟨3, 0⟩, ⟨1, 1⟩] 0 = ⟨8, 0⟩ from rfl, show rd ([0, 1] : List Int) 1 = 1 from rfl, show rd ([1, 2] : List Int) 0 = 1 from rfl, show rd ([0, 1] : List Int) 0 = 0 from rfl]
 simp only [show ((0 + 1 + 1 : Nat) : Int) = 2 from rfl, show ((0 + 1 + 1 + 1 : Nat) : Int) = 3 from rfl, if_pos (show (0 : Int) < 3 by decide)]
 refine ev_bind (ev_of (a := 4) (by decide +kernel)) ?_
 simp only [if_true, if_pos (show (0 : Int) < 2 by decide), if_pos (show (1 : Int) < 2 by decide)]
 refine ev_bind hn ?_
 exact ev_const _
end Go.Proofs.Ytpcpllabegfdjaa.Qt
