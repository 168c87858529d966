-- Cut by a program of this session (wip/pr/pack.py) to what one claim needs.
import Derived.Laws.BitsAllLaws
import Derived.Test.YtpcpllabegfdjaaAQuota
import Derived.Test.YtpcpllabegfdjaaAPx25
namespace Go.Proofs.Ytpcpllabegfdjaa.Qt
open Go.RowKit Go.Proofs.YtpcpllabegfdjaaW.PrintWords Go.Proofs.YtpcpllabegfdjaaW.PrintLast Go.Proofs.YtpcpllabegfdjaaW.PrintMore Go.Proofs.Ytpcpllabegfdjaa.P Go.Proofs.Ytpcpllabegfdjaa.X Go.Proofs.Ytpcpllabegfdjaa.Gen
set_option linter.unusedVariables false
set_option linter.unusedSimpArgs false
set_option linter.unusedSectionVars false
def bit (M i : Nat) : Bool := decide (M / 2 ^ i % 2 = 1)
theorem shr_nat (M i : Nat) (hi : i ≤ 64) : shr .u64 (M : Int) (IntKind.u64.wrap (i : Int)) = ((M / 2 ^ i : Nat) : Int) := by
 have e : IntKind.u64.wrap (i : Int) = (i : Int) := by unfold IntKind.wrap; simp [IntKind.bits, IntKind.signed]; omega
 unfold shr
 rw [e, Int.toNat_natCast, Nat.min_eq_left (by show i ≤ 64; exact hi)]
 rw [Int.natCast_ediv, Int.natCast_pow]; rfl
theorem and_one (M : Nat) (h : M < 18446744073709551616) : Go.bits .and .u64 (M : Int) 1 = ((M % 2 : Nat) : Int) := by
 have := u64_and_nat M 1 h (by decide)
 rw [show ((1 : Nat) : Int) = 1 from rfl] at this
 rw [this, Nat.and_one_is_mod]
theorem bit_test (M i : Nat) (h : M < 18446744073709551616) (hi : i ≤ 64) : (Go.bits .and .u64 (shr .u64 (M : Int) (IntKind.u64.wrap (i : Int))) 1) = if bit M i then 1 else 0 := by
 rw [shr_nat M i hi, and_one _ (Nat.lt_of_le_of_lt (Nat.div_le_self _ _) h)]
 unfold bit
 have := Nat.mod_two_eq_zero_or_one (M / 2 ^ i)
 by_cases e : M / 2 ^ i % 2 = 1
 ·simp [e]
 ·have e0 : M / 2 ^ i % 2 = 0 := by omega
  rw [e0]; simp
theorem wrap_u64 (M : Nat) (h : M + 1 < 18446744073709551616) : IntKind.u64.wrap ((M : Int) + 1) = ((M + 1 : Nat) : Int) := by
 unfold IntKind.wrap; simp [IntKind.bits, IntKind.signed]; omega
theorem wrap_u64_nonneg (x : Int) : 0 ≤ IntKind.u64.wrap x := by
 unfold IntKind.wrap; simp [IntKind.bits, IntKind.signed]; omega
def mc (c : Int → Int) (M : Nat) : Nat → Nat → Int → Int
 | 0, _, acc => acc
 | d + 1, i, acc => if bit M i = false then mc c M d (i + 1) acc else if c i = 0 then 65 else mc c M d (i + 1) (acc + c i)
def ms (M : Nat) : Nat → Nat → List Int
 | 0, _ => []
 | d + 1, i => if bit M i = false then ms M d (i + 1) else (i : Int) :: ms M d (i + 1)
theorem mc_ms (c : Int → Int) (M : Nat) : ∀ (d i : Nat) (acc : Int), (∀ j, j ∈ ms M d i → c j ≠ 0) → mc c M d i acc = acc + su c (ms M d i)
 | 0, i, acc, _ => by simp [mc, ms, su]
 | d + 1, i, acc, h => by
  rw [mc, ms]
  rw [ms] at h
  by_cases e : bit M i = false
  ·rw [if_pos e, if_pos e]; rw [if_pos e] at h; exact mc_ms c M d (i + 1) acc h
  ·rw [if_neg e, if_neg e]; rw [if_neg e] at h
   rw [if_neg (h _ List.mem_cons_self), mc_ms c M d (i + 1) _ (fun j hj => h j (List.mem_cons_of_mem _ hj))]
   simp only [su]; omega
theorem mc_bad (c : Int → Int) (M : Nat) : ∀ (d i : Nat) (acc : Int), (∃ j, j ∈ ms M d i ∧ c j = 0) → mc c M d i acc = 65
 | 0, i, acc, h => by obtain ⟨j, hj, _⟩ := h; simp [ms] at hj
 | d + 1, i, acc, h => by
  rw [mc]
  rw [ms] at h
  obtain ⟨j, hj, h0⟩ := h
  by_cases e : bit M i = false
  ·rw [if_pos e]; rw [if_pos e] at hj; exact mc_bad c M d (i + 1) acc ⟨j, hj, h0⟩
  ·rw [if_neg e]; rw [if_neg e] at hj
   by_cases e0 : c i = 0
   ·rw [if_pos e0]
   ·rw [if_neg e0]
    rcases List.mem_cons.1 hj with rfl | hj
    ·exact absurd h0 e0
    ·exact mc_bad c M d (i + 1) _ ⟨j, hj, h0⟩
theorem ms_mem (M : Nat) : ∀ (d i : Nat) (j : Int), j ∈ ms M d i ↔ ∃ k : Nat, j = k ∧ i ≤ k ∧ k < i + d ∧ bit M k = true
 | 0, i, j => by
  simp only [ms, List.not_mem_nil, false_iff]
  rintro ⟨k, _, h1, h2, _⟩; omega
 | d + 1, i, j => by
  rw [ms]
  by_cases e : bit M i = false
  ·rw [if_pos e, ms_mem M d (i + 1) j]
   constructor
   ·rintro ⟨k, h0, h1, h2, h3⟩; exact ⟨k, h0, by omega, by omega, h3⟩
   ·rintro ⟨k, h0, h1, h2, h3⟩
    by_cases ek : k = i
    ·subst ek; rw [e] at h3; cases h3
    ·exact ⟨k, h0, by omega, by omega, h3⟩
  ·rw [if_neg e, List.mem_cons, ms_mem M d (i + 1) j]
   constructor
   ·rintro (rfl | ⟨k, h0, h1, h2, h3⟩)
    ·exact ⟨i, rfl, Nat.le_refl _, by omega, by simpa using e⟩
    ·exact ⟨k, h0, by omega, by omega, h3⟩
   ·rintro ⟨k, h0, h1, h2, h3⟩
    by_cases ek : k = i
    ·subst ek; exact .inl h0
    ·exact .inr ⟨k, h0, by omega, by omega, h3⟩
theorem ms_sorted (M : Nat) : ∀ (d i : Nat), (ms M d i).Pairwise (· < ·)
 | 0, _ => List.Pairwise.nil
 | d + 1, i => by
  rw [ms]
  split
  ·exact ms_sorted M d (i + 1)
  ·rw [List.pairwise_cons]
   refine ⟨fun j hj => ?_, ms_sorted M d (i + 1)⟩
   obtain ⟨k, rfl, h1, _, _⟩ := (ms_mem M d (i + 1) j).1 hj
   omega
theorem mask_of (P : Nat → Bool) : ∀ n, ∃ M, M < 2 ^ n ∧ ∀ i, i < n → bit M i = P i
 | 0 => ⟨0, by decide, fun i hi => by omega⟩
 | n + 1 => by
  obtain ⟨M, hM, h⟩ := mask_of P n
  refine ⟨M + (if P n then 2 ^ n else 0), ?_, fun i hi => ?_⟩
  ·rw [Nat.pow_succ]; split <;> omega
  ·by_cases e : i = n
   ·subst e
    unfold bit
    cases P i with
    | true => simp only [if_true, Nat.add_div_right _ (Nat.two_pow_pos i), Nat.div_eq_of_lt hM]; rfl
    | false => simp only [Bool.false_eq_true, if_false, Nat.add_zero, Nat.div_eq_of_lt hM]; rfl
   ·rw [← h i (by omega)]
    unfold bit
    cases P n with
    | true =>
     simp only [if_true]
     have hp : 2 ^ n = 2 ^ i * (2 * 2 ^ (n - i - 1)) := by
      rw [← Nat.pow_succ', ← Nat.pow_add]; congr 1; omega
     rw [hp, Nat.add_mul_div_left _ _ (Nat.two_pow_pos i), Nat.add_mul_mod_self_left]
    | false => simp only [Bool.false_eq_true, if_false, Nat.add_zero]
theorem better_some (a b : Int) (u v : Int) : ∃ t, quota_choice_better.f a u b v = some t ∧ (u > v → t = true) ∧ (u < v → t = false) := by
 unfold quota_choice_better.f
 by_cases e : u = v
 ·rw [if_pos e]
  obtain ⟨x, hx⟩ : ∃ x, bits_OnesCount.f a = some x := ⟨_, rfl⟩
  obtain ⟨y, hy⟩ : ∃ y, bits_OnesCount.f b = some y := ⟨_, rfl⟩
  rw [hx, hy]
  simp only [Option.bind_some]
  split
  ·exact ⟨_, rfl, fun h => by omega, fun h => by omega⟩
  ·exact ⟨_, rfl, fun h => by omega, fun h => by omega⟩
 ·rw [if_neg e]
  exact ⟨_, rfl, fun h => by simpa using h, fun h => by simp; omega⟩
section
variable (l : List W) (p b : Int) (hp : 2 ≤ p ∧ p ≤ 16) (hl : l.length ≤ 12)
include hp hl
theorem full_l2 (B : Nat) (hB : B < 4096) (bc : Int) : ∀ (d i : Nat) (acc : List Int), i + d = l.length → acc.length ≤ i →
  Ev (fun k => quota_Fullest.l2 k acc (l.length : Int) (i : Int) (B : Int) bc) (acc ++ ms B d i) := by
 intro d
 induction d with
 | zero =>
  intro i acc hi ha
  refine ev_succ (fun k => by rw [quota_Fullest.l2]) ?_
  simp only [if_neg (show ¬ (i : Int) < (l.length : Int) by omega), ms, List.append_nil]
  exact ev_const _
 | succ d ih =>
  intro i acc hi ha
  refine ev_succ (fun k => by rw [quota_Fullest.l2]) ?_
  simp only [if_pos (show (i : Int) < (l.length : Int) by omega), if_pos (wrap_u64_nonneg (i : Int)), bit_test B i (by omega) (by omega), nx (j := i) (by omega)]
  rw [ms]
  cases hbit : bit B i with
  | true =>
   simp only [if_true, Bool.true_eq_false, if_false, if_pos (show acc.length < 17592186044416 by omega)]
   have := ih (i + 1) (acc ++ [(i : Int)]) (by omega) (by simp; omega)
   simpa only [List.append_assoc, List.singleton_append] using this
  | false =>
   simp only [Bool.false_eq_true, if_false, if_neg (show ¬ (0 : Int) = 1 by decide), if_true]
   exact ih (i + 1) acc (by omega) (by omega)
theorem full_l1 (M B : Nat) (hM : M < 4096) (bc : Int) (r : List Int)
  (H : Ev (fun k => if mc (ci l p) M l.length 0 0 ≤ min b 64 then ((quota_choice_better.f (M : Int) (mc (ci l p) M l.length 0 0) (B : Int) bc).bind fun t115 => (if t115 = true then (quota_Fullest.l0 k l b p (IntKind.u64.wrap ((M : Int) + 1)) (M : Int) (mc (ci l p) M l.length 0 0)) else (quota_Fullest.l0 k l b p (IntKind.u64.wrap ((M : Int) + 1)) (B : Int) bc))) else (quota_Fullest.l0 k l b p (IntKind.u64.wrap ((M : Int) + 1)) (B : Int) bc)) r) :
  ∀ (d i : Nat) (acc : Int), i + d = l.length → 0 ≤ acc → acc ≤ 42 * (i : Int) → mc (ci l p) M d i acc = mc (ci l p) M l.length 0 0 →
  Ev (fun k => quota_Fullest.l1 k l b p (M : Int) l (l.length : Int) (i : Int) (B : Int) bc (M : Int) acc) r := by
 intro d
 induction d with
 | zero =>
  intro i acc hi h0 h1 he
  refine ev_succ (fun k => by rw [quota_Fullest.l1]) ?_
  simp only [if_neg (show ¬ (i : Int) < (l.length : Int) by omega), mn_min]
  rw [mc] at he
  rw [he]
  exact H
 | succ d ih =>
  intro i acc hi h0 h1 he
  refine ev_succ (fun k => by rw [quota_Fullest.l1]) ?_
  simp only [if_pos (show (i : Int) < (l.length : Int) by omega), if_pos (show (0 : Int) ≤ (i : Int) by omega), if_pos (wrap_u64_nonneg (i : Int)), bit_test M i (by omega) (by omega), nx (j := i) (by omega), mn_min]
  rw [mc] at he
  cases hbit : bit M i with
  | false =>
   rw [hbit, if_pos rfl] at he
   simp only [Bool.false_eq_true, if_false, if_true]
   exact ih (i + 1) acc (by omega) h0 (by omega) he
  | true =>
   rw [hbit, if_neg (by decide)] at he
   simp only [if_true, if_neg (show ¬ (1 : Int) = 0 by decide)]
   refine ev_bind (ev_of (cost_f p _)) ?_
   have hb := ci_bd l p hp (i : Int)
   show Ev (fun k => if ci l p (i : Int) = 0 then _ else _) r
   by_cases e0 : ci l p (i : Int) = 0
   ·rw [if_pos e0] at he
    refine ev_pos e0 ?_
    rw [← he] at H
    exact H
   ·rw [if_neg e0] at he
    refine ev_neg e0 ?_
    have e : wrap64 (acc + cst p (rd_T34 l (i : Int))) = acc + ci l p (i : Int) := w64 (by show _ ≤ acc + ci l p (i : Int); omega) (by show acc + ci l p (i : Int) ≤ _; omega)
    rw [e]
    exact ih (i + 1) _ (by omega) (by omega) (by omega) he
def Can (M : Nat) : Prop := mc (ci l p) M l.length 0 0 ≤ min b 64
omit hp hl in
theorem ms_zero : ∀ (d i : Nat), ms 0 d i = []
 | 0, _ => rfl
 | d + 1, i => by rw [ms, if_pos (by unfold bit; simp)]; exact ms_zero d (i + 1)
theorem full_l0 : ∀ (d M : Nat) (B : Nat) (bc : Int), M + d = 2 ^ l.length → 1 ≤ M → B < 2 ^ l.length → bc = mc (ci l p) B l.length 0 0 → (B = 0 ∨ Can l p b B) → (∀ m, 0 < m → m < M → Can l p b m → mc (ci l p) m l.length 0 0 ≤ bc) → 0 ≤ bc →
  ∃ B' : Nat, B' < 2 ^ l.length ∧ (B' = 0 ∨ Can l p b B') ∧ (∀ m, 0 < m → m < 2 ^ l.length → Can l p b m → mc (ci l p) m l.length 0 0 ≤ mc (ci l p) B' l.length 0 0) ∧ 0 ≤ mc (ci l p) B' l.length 0 0 ∧
   Ev (fun k => quota_Fullest.l0 k l b p (M : Int) (B : Int) bc) (ms B' l.length 0) := by
 have hpow : 2 ^ l.length ≤ 2 ^ 12 := Nat.pow_le_pow_right (by decide) hl
 intro d
 induction d with
 | zero =>
  intro M B bc hM h1 hB hbc hcan hmax h0
  refine ⟨B, hB, hcan, fun m hm0 hm1 hc => by rw [← hbc]; exact hmax m hm0 (by omega) hc, by rw [← hbc]; exact h0, ?_⟩
  refine ev_succ (fun k => by rw [quota_Fullest.l0]) ?_
  have e : (shr .u64 (M : Int) (IntKind.u64.wrap ((l.length : Int)))) = 1 := by
   rw [shr_nat M l.length (by omega), show M = 2 ^ l.length by omega, Nat.div_self (Nat.two_pow_pos _)]; rfl
  simp only [if_pos (wrap_u64_nonneg (l.length : Int)), e, if_neg (show ¬ (1 : Int) = 0 by decide)]
  have := full_l2 l p hp hl B (by omega) bc l.length 0 [] (by omega) (by simp)
  exact this
 | succ d ih =>
  intro M B bc hM h1 hB hbc hcan hmax h0
  have hw : IntKind.u64.wrap ((M : Int) + 1) = ((M + 1 : Nat) : Int) := wrap_u64 M (by omega)
  have e : (shr .u64 (M : Int) (IntKind.u64.wrap ((l.length : Int)))) = 0 := by
   rw [shr_nat M l.length (by omega), Nat.div_eq_of_lt (by omega)]; rfl
  have start : ∀ (r : List Int), Ev (fun k => if mc (ci l p) M l.length 0 0 ≤ min b 64 then ((quota_choice_better.f (M : Int) (mc (ci l p) M l.length 0 0) (B : Int) bc).bind fun t115 => (if t115 = true then (quota_Fullest.l0 k l b p (IntKind.u64.wrap ((M : Int) + 1)) (M : Int) (mc (ci l p) M l.length 0 0)) else (quota_Fullest.l0 k l b p (IntKind.u64.wrap ((M : Int) + 1)) (B : Int) bc))) else (quota_Fullest.l0 k l b p (IntKind.u64.wrap ((M : Int) + 1)) (B : Int) bc)) r → Ev (fun k => quota_Fullest.l0 k l b p (M : Int) (B : Int) bc) r := by
   intro r H
   refine ev_succ (fun k => by rw [quota_Fullest.l0]) ?_
   simp only [if_pos (wrap_u64_nonneg (l.length : Int)), e, if_true]
   exact full_l1 l p b hp hl M B (by omega) bc r H l.length 0 0 (by omega) (by omega) (by omega) rfl
  have hge : ∀ M : Nat, (∃ j, j ∈ ms M l.length 0 ∧ ci l p j = 0) ∨ (∀ j, j ∈ ms M l.length 0 → ci l p j ≠ 0) := by
   intro M
   by_cases h : ∃ j, j ∈ ms M l.length 0 ∧ ci l p j = 0
   ·exact .inl h
   ·exact .inr (fun j hj h0 => h ⟨j, hj, h0⟩)
  have hnn : ∀ M : Nat, 0 ≤ mc (ci l p) M l.length 0 0 := by
   intro M
   rcases hge M with h | h
   ·rw [mc_bad _ _ _ _ _ h]; omega
   ·rw [mc_ms _ _ _ _ _ h]
    have := su_nonneg (c := ci l p) (a := ms M l.length 0) (fun i _ => (ci_bd l p hp i).1)
    omega
  by_cases hc : mc (ci l p) M l.length 0 0 ≤ min b 64
  ·obtain ⟨t, ht, ht1, ht2⟩ := better_some (M : Int) (B : Int) (mc (ci l p) M l.length 0 0) bc
   cases t with
   | true =>
    have hle : bc ≤ mc (ci l p) M l.length 0 0 := by
     by_cases hlt : mc (ci l p) M l.length 0 0 < bc
     ·have := ht2 hlt; cases this
     ·omega
    obtain ⟨B', g1, g2, g3, g4, g5⟩ := ih (M + 1) M (mc (ci l p) M l.length 0 0) (by omega) (by omega) (by omega) rfl (.inr hc) (fun m hm0 hm1 hcm => by
     by_cases em : m = M
     ·subst em; exact Int.le_refl _
     ·have := hmax m hm0 (by omega) hcm; omega) (hnn M)
    refine ⟨B', g1, g2, g3, g4, start _ ?_⟩
    refine ev_pos hc ?_
    refine ev_bind (ev_of ht) ?_
    simp only [if_true, hw]
    exact g5
   | false =>
    have hle : mc (ci l p) M l.length 0 0 ≤ bc := by
     by_cases hgt : mc (ci l p) M l.length 0 0 > bc
     ·have := ht1 hgt; cases this
     ·omega
    obtain ⟨B', g1, g2, g3, g4, g5⟩ := ih (M + 1) B bc (by omega) (by omega) hB hbc hcan (fun m hm0 hm1 hcm => by
     by_cases em : m = M
     ·subst em; exact hle
     ·exact hmax m hm0 (by omega) hcm) h0
    refine ⟨B', g1, g2, g3, g4, start _ ?_⟩
    refine ev_pos hc ?_
    refine ev_bind (ev_of ht) ?_
    simp only [Bool.false_eq_true, if_false, hw]
    exact g5
  ·obtain ⟨B', g1, g2, g3, g4, g5⟩ := ih (M + 1) B bc (by omega) (by omega) hB hbc hcan (fun m hm0 hm1 hcm => by
    by_cases em : m = M
    ·subst em; exact absurd hcm hc
    ·exact hmax m hm0 (by omega) hcm) h0
   refine ⟨B', g1, g2, g3, g4, start _ ?_⟩
   refine ev_neg hc ?_
   rw [hw]
   exact g5
def Feas (S : List Int) : Prop := S.Nodup ∧ (∀ i, i ∈ S → i ∈ rng l.length ∧ ci l p i > 0) ∧ su (ci l p) S ≤ min b 64
theorem full_ok (hb : 0 ≤ b) : ∃ F : List Int, Ev (fun k => quota_Fullest.f k l b p) F ∧ Feas l p b F ∧ F.length ≤ 12 ∧ ∀ S, Feas l p b S → su (ci l p) S ≤ su (ci l p) F := by
 have hz : mc (ci l p) 0 l.length 0 0 = 0 := by
  rw [mc_ms _ _ _ _ _ (by rw [ms_zero]; simp), ms_zero]; rfl
 obtain ⟨B, h1, h2, h3, h4, h5⟩ := full_l0 l p b hp hl (2 ^ l.length - 1) 1 0 0 (by have := Nat.two_pow_pos l.length; omega) (by omega) (Nat.two_pow_pos _) hz.symm (.inl rfl) (fun m h0 h1 => by omega) (Int.le_refl _)
 have hcan : mc (ci l p) B l.length 0 0 ≤ min b 64 := by
  rcases h2 with h | h
  ·subst h; rw [hz]; omega
  ·exact h
 have hgood : ∀ M, mc (ci l p) M l.length 0 0 ≤ min b 64 → ∀ j, j ∈ ms M l.length 0 → ci l p j ≠ 0 := by
  intro M hM j hj h0
  rw [mc_bad _ _ _ _ _ ⟨j, hj, h0⟩] at hM
  omega
 have hsum := mc_ms (ci l p) B l.length 0 0 (hgood B hcan)
 have hnd : ∀ M, (ms M l.length 0).Nodup := fun M => by
  rw [List.nodup_iff_pairwise_ne]
  exact (ms_sorted M l.length 0).imp (fun h => by omega)
 refine ⟨ms B l.length 0, ?_, ⟨hnd B, fun i hi => ?_, by rw [hsum] at hcan; omega⟩, ?_, fun S hS => ?_⟩
 ·unfold quota_Fullest.f
  simp only [if_neg (show ¬ (l.length : Int) > 12 by omega)]
  exact h5
 ·obtain ⟨k, rfl, _, hk, _⟩ := (ms_mem B l.length 0 i).1 hi
  refine ⟨(rng_mem _ _).2 ⟨by omega, by omega⟩, ?_⟩
  have := hgood B hcan _ hi
  have := ci_bd l p hp (k : Int)
  omega
 ·have hsub : ∀ (d i : Nat), (ms B d i).length ≤ d := by
   intro d
   induction d with
   | zero => intro i; simp [ms]
   | succ d ih =>
    intro i
    have := ih (i + 1)
    rw [ms]
    split
    ·omega
    ·rw [List.length_cons]; omega
  have := hsub l.length 0
  omega
 ·obtain ⟨hn, hin, hsu⟩ := hS
  obtain ⟨M, hM1, hM2⟩ := mask_of (fun i => decide ((i : Int) ∈ S)) l.length
  have hperm : (ms M l.length 0).Perm S := by
   rw [List.perm_ext_iff_of_nodup (hnd M) hn]
   intro j
   rw [ms_mem]
   constructor
   ·rintro ⟨k, rfl, _, hk, hbk⟩
    rw [hM2 k (by omega)] at hbk
    simpa using hbk
   ·intro hj
    have := (rng_mem _ _).1 (hin j hj).1
    refine ⟨j.toNat, by omega, by omega, by omega, ?_⟩
    rw [hM2 j.toNat (by omega)]
    rw [show ((j.toNat : Nat) : Int) = j by omega]
    simpa using hj
  have hg : ∀ j, j ∈ ms M l.length 0 → ci l p j ≠ 0 := fun j hj => by
   have := (hin j (hperm.mem_iff.1 hj)).2; omega
  have e := mc_ms (ci l p) M l.length 0 0 hg
  have es := su_perm (ci l p) hperm
  have hcM : Can l p b M := by show _ ≤ _; rw [e, es]; omega
  by_cases h0 : M = 0
  ·subst h0
   rw [ms_zero] at es
   have := su_nonneg (c := ci l p) (a := ms B l.length 0) (fun i _ => (ci_bd l p hp i).1)
   simp only [su] at es
   omega
  ·have := h3 M (by omega) hM1 hcM
   omega
end
abbrev V := S42
theorem wishes_ok (l : List W) (hl : l.length ≤ 1000) : Ev (fun k => almshouselaw41_wishes.f k l) (l.map fun x => (⟨x.f0, x.f1⟩ : V)) := by
 unfold almshouselaw41_wishes.f
 have key : ∀ (d i : Nat), i + d = l.length → Ev (fun k => almshouselaw41_wishes.l0 k ((l.take i).map fun x => (⟨x.f0, x.f1⟩ : V)) l (l.length : Int) (i : Int)) (l.map fun x => (⟨x.f0, x.f1⟩ : V)) := by
  intro d
  induction d with
  | zero =>
   intro i hi
   obtain rfl : i = l.length := by omega
   refine ev_succ (fun k => by rw [almshouselaw41_wishes.l0]) ?_
   simp only [Int.lt_irrefl, if_false, List.take_length]
   exact ev_const _
  | succ d ih =>
   intro i hi
   have hlt : i < l.length := by omega
   refine ev_succ (fun k => by rw [almshouselaw41_wishes.l0]) ?_
   have e : rd_T34 l (i : Int) = l[i] := by unfold rd_T34; rw [List.getD_eq_getElem?_getD, Int.toNat_natCast, List.getElem?_eq_getElem hlt]; rfl
   simp only [if_pos (show (i : Int) < (l.length : Int) by omega), if_pos (show (0 : Int) ≤ (i : Int) by omega), e, nx (j := i) (by omega)]
   simp only [if_pos (show ((l.take i).map fun x => (⟨x.f0, x.f1⟩ : V)).length < 8796093022208 by simp; omega)]
   have := ih (i + 1) (by omega)
   rw [List.take_succ_eq_append_getElem hlt, List.map_append] at this
   exact this
 exact key l.length 0 (by omega)
theorem sum_ok (l : List W) (p : Int) (hp : 2 ≤ p ∧ p ≤ 16) (S : List Int) (hS : S.length ≤ 100) (hin : ∀ i, i ∈ S → 0 ≤ i ∧ i < l.length) :
  Ev (fun k => almshouseref41_Sum.f k (l.map fun x => (⟨x.f0, x.f1⟩ : V)) S p) (su (ci l p) S) := by
 unfold almshouseref41_Sum.f
 have key : ∀ (d j : Nat) (acc : Int), j + d = S.length → 0 ≤ acc → acc ≤ 42 * (j : Int) → Ev (fun k => almshouseref41_Sum.l0 k (l.map fun x => (⟨x.f0, x.f1⟩ : V)) p acc S (S.length : Int) (j : Int)) (acc + su (ci l p) (S.drop j)) := by
  intro d
  induction d with
  | zero =>
   intro j acc hj h0 h1
   obtain rfl : j = S.length := by omega
   refine ev_succ (fun k => by rw [almshouseref41_Sum.l0]) ?_
   simp only [Int.lt_irrefl, if_false, List.drop_length, su, Int.add_zero]
   exact ev_const _
  | succ d ih =>
   intro j acc hj h0 h1
   have hlt : j < S.length := by omega
   have hi := hin S[j] (List.getElem_mem _)
   have hb := ci_bd l p hp S[j]
   refine ev_succ (fun k => by rw [almshouseref41_Sum.l0]) ?_
   simp only [if_pos (show (j : Int) < (S.length : Int) by omega), if_pos (show (0 : Int) ≤ (j : Int) by omega), rd_nat hlt, if_pos hi.1, if_pos (show S[j] < ((l.map fun x => (⟨x.f0, x.f1⟩ : V)).length : Int) by simp; exact hi.2), nx (j := j) (by omega)]
   refine ev_bind (rcost_f p hp _ _) ?_
   have e : (⟨(rd_T42 (l.map fun x => (⟨x.f0, x.f1⟩ : V)) S[j]).f0, (rd_T42 (l.map fun x => (⟨x.f0, x.f1⟩ : V)) S[j]).f1⟩ : W) = rd_T34 l S[j] := by
    unfold rd_T42 rd_T34
    have h1 : S[j].toNat < l.length := by omega
    rw [List.getD_eq_getElem?_getD, List.getD_eq_getElem?_getD, List.getElem?_map, List.getElem?_eq_getElem h1]; rfl
   rw [e]
   have e2 : cst p (rd_T34 l S[j]) = ci l p S[j] := rfl
   rw [e2, w64 (x := acc + ci l p S[j]) (by omega) (by omega), List.drop_eq_getElem_cons hlt, su]
   have := ih (j + 1) (acc + ci l p S[j]) (by omega) (by omega) (by omega)
   rw [Int.add_assoc] at this
   exact this
 have := key S.length 0 0 (by omega) (Int.le_refl _) (by omega)
 rw [List.drop_zero, Int.zero_add] at this
 exact this
theorem gr_feas (l : List W) (p b : Int) (hp : 2 ≤ p ∧ p ≤ 16) (hb : 0 ≤ b) (o : List Int) (ho : o.Perm (rng l.length)) : Feas l p b (gr (ci l p) o (min b 64)) := by
 have hs := gr_sub (ci l p) o (min b 64)
 refine ⟨hs.nodup (ho.nodup_iff.2 (rng_nodup _)), fun i hi => ⟨ho.mem_iff.1 (hs.subset hi), gr_pos _ _ _ i hi⟩, gr_sum _ _ _ (by omega)⟩
theorem sort_perm (x : List Int) : (x.mergeSort fun x y => decide (x ≤ y)).Perm x := List.mergeSort_perm _ _
theorem sort_id {a : List Int} (h : a.Pairwise (· ≤ ·)) : (a.mergeSort fun x y => decide (x ≤ y)) = a := sorted_perm (sort_sorted _) h (List.mergeSort_perm _ _)
theorem fullest_mono (l : List W) (a b : Int) (k0 : Nat) (r : List Int) (h : quota_Fullest.f k0 l a b = some r) : Ev (fun k => quota_Fullest.f k l a b) r :=
 ⟨k0, fun k hk => by
  have : ∀ d, quota_Fullest.f (k0 + d) l a b = some r := by
   intro d
   induction d with
   | zero => exact h
   | succ d ih => exact quota_Fullest.mono l a b (k0 + d) _ ih
  rw [show k = k0 + (k - k0) by omega]; exact this _⟩
theorem fixed_ok : Ev (fun k => almshouselaw41_fixed.f k) true := by
 have hp : (2 : Int) ≤ 4 ∧ (4 : Int) ≤ 16 := by decide
 have c0 : ci [⟨8, 0⟩, ⟨3, 0⟩, ⟨1, 1⟩] 4 0 = 4 := by decide +kernel
 have c1 : ci [⟨8, 0⟩, ⟨3, 0⟩, ⟨1, 1⟩] 4 1 = 2 := by decide +kernel
 have c2 : ci [⟨8, 0⟩, ⟨3, 0⟩, ⟨1, 1⟩] 4 2 = 3 := by decide +kernel
 have hf := first_ok [⟨8, 0⟩, ⟨3, 0⟩, ⟨1, 1⟩] 4 6 hp (by decide) (by decide)
 have ef : gr (ci [⟨8, 0⟩, ⟨3, 0⟩, ⟨1, 1⟩] 4) (rng ([⟨8, 0⟩, ⟨3, 0⟩, ⟨1, 1⟩] : List W).length) (min 6 64) = [0, 1] := by
  show gr _ [0, 1, 2] 6 = _
  simp [gr, c0, c1, c2]
 rw [ef, sort_id (by decide)] at hf
 have ho : ord [⟨8, 0⟩, ⟨3, 0⟩, ⟨1, 1⟩] 4 = [1, 2, 0] := by
  refine List.Perm.eq_of_pairwise (le := fun a b => ci [⟨8, 0⟩, ⟨3, 0⟩, ⟨1, 1⟩] 4 a ≤ ci [⟨8, 0⟩, ⟨3, 0⟩, ⟨1, 1⟩] 4 b) ?_ (ord_sorted _ _) (by simp [c0, c1, c2]) ((ord_perm _ _).trans (by decide))
  intro a b ha hb h1 h2
  have ha' : a = 0 ∨ a = 1 ∨ a = 2 := by have := (rng_mem _ _).1 ((ord_perm _ _).mem_iff.1 ha); simp at this; omega
  have hb' : b = 0 ∨ b = 1 ∨ b = 2 := by simp at hb; omega
  rcases ha' with rfl | rfl | rfl <;> rcases hb' with rfl | rfl | rfl <;> simp only [c0, c1, c2] at h1 h2 <;> first | rfl | omega
 have hm := most_ok [⟨8, 0⟩, ⟨3, 0⟩, ⟨1, 1⟩] 4 6 hp (by decide) (by decide)
 have em : gr (ci [⟨8, 0⟩, ⟨3, 0⟩, ⟨1, 1⟩] 4) (ord [⟨8, 0⟩, ⟨3, 0⟩, ⟨1, 1⟩] 4) (min 6 64) = [1, 2] := by
  rw [ho]
  show gr _ [1, 2, 0] 6 = _
  simp [gr, c0, c1, c2]
 rw [em, sort_id (by decide)] at hm
 have hF : Ev (fun k => quota_Fullest.f k [⟨8, 0⟩, ⟨3, 0⟩, ⟨1, 1⟩] 6 4) [0, 1] := fullest_mono _ _ _ 60 _ (by decide +kernel)
 have hn := first_ok [] 4 9 hp (by decide) (by decide)
 have en : gr (ci [] 4) (rng ([] : List W).length) (min 9 64) = [] := rfl
 rw [en, sort_id List.Pairwise.nil] at hn
 unfold almshouselaw41_fixed.f
 simp only [Option.bind_some]
 refine ev_bind hf ?_
 refine ev_bind hm ?_
 refine ev_bind hF ?_
 simp only [List.length_cons, List.length_nil]
 rw [show rd_T34 [⟨8, 0⟩, ⟨3, 0⟩, ⟨1, 1⟩] 0 = ⟨8, 0⟩ from rfl, show rd ([0, 1] : List Int) 1 = 1 from rfl, show rd ([1, 2] : List Int) 0 = 1 from rfl, show rd ([0, 1] : List Int) 0 = 0 from rfl]
 simp only [show ((0 + 1 + 1 : Nat) : Int) = 2 from rfl, show ((0 + 1 + 1 + 1 : Nat) : Int) = 3 from rfl, if_pos (show (0 : Int) < 3 by decide)]
 refine ev_bind (ev_of (a := 4) (by decide +kernel)) ?_
 simp only [if_true, if_pos (show (0 : Int) < 2 by decide), if_pos (show (1 : Int) < 2 by decide)]
 refine ev_bind hn ?_
 exact ev_const _
theorem QuotaMost_ev (l : List W) (a1 a2 : Int) (h1 : 0 ≤ a1 ∧ a1 ≤ 255) (h2 : 0 ≤ a2 ∧ a2 ≤ 255) : Ev (fun k => almshouselaw41_QuotaMost.f k l a1 a2) true := by
 unfold almshouselaw41_QuotaMost.f
 refine ev_bind fixed_ok ?_
 simp only [if_true]
 by_cases hl : (l.length : Int) > 12
 ·simp only [if_pos hl]; exact ev_const _
 ·simp only [if_neg hl]
  have e1 : wrap64 (Int.tmod a1 70) = a1 % 70 := by rw [Int.tmod_eq_emod_of_nonneg h1.1]; exact w64 (by omega) (by omega)
  have e2 : wrap64 (2 + wrap64 (Int.tmod a2 15)) = 2 + a2 % 15 := by rw [Int.tmod_eq_emod_of_nonneg h2.1, w64 (x := a2 % 15) (by omega) (by omega)]; exact w64 (by omega) (by omega)
  rw [e1, e2]
  obtain ⟨b, hb⟩ : ∃ b, b = a1 % 70 := ⟨_, rfl⟩
  obtain ⟨p, hp⟩ : ∃ p, p = 2 + a2 % 15 := ⟨_, rfl⟩
  rw [← hb, ← hp]
  have hb0 : 0 ≤ b := by omega
  have hp0 : 2 ≤ p ∧ p ≤ 16 := by omega
  clear e1 e2 hb hp h1 h2
  have hl' : l.length ≤ 12 := by omega
  obtain ⟨F, hF1, hF2, hF3, hF4⟩ := full_ok l p b hp0 hl' hb0
  have hfirst := gr_feas l p b hp0 hb0 (rng l.length) (List.Perm.refl _)
  have hmost := gr_feas l p b hp0 hb0 (ord l p) (ord_perm l p)
  have hbest : ∀ S, Feas l p b S → S.length ≤ (gr (ci l p) (ord l p) (min b 64)).length := fun S hS =>
   gr_most (ci l p) (ord l p) (min b 64) S (ord_sorted l p) hS.1 (fun i hi => ⟨(ord_perm l p).mem_iff.2 (hS.2.1 i hi).1, (hS.2.1 i hi).2⟩) hS.2.2
  have hin : ∀ S, Feas l p b S → ∀ i, i ∈ S → 0 ≤ i ∧ i < l.length := fun S hS i hi => (rng_mem _ _).1 (hS.2.1 i hi).1
  have hlenr : (rng l.length).length = l.length := by simp [rng]
  have hle : ∀ (o : List Int), o.Perm (rng l.length) → (gr (ci l p) o (min b 64)).length ≤ 12 := fun o ho => by
   have := (gr_sub (ci l p) o (min b 64)).length_le
   rw [ho.length_eq, hlenr] at this; omega
  obtain ⟨f, hf⟩ : ∃ f, f = (gr (ci l p) (rng l.length) (min b 64)).mergeSort fun x y => decide (x ≤ y) := ⟨_, rfl⟩
  obtain ⟨m, hm⟩ : ∃ m, m = (gr (ci l p) (ord l p) (min b 64)).mergeSort fun x y => decide (x ≤ y) := ⟨_, rfl⟩
  have pf : f.Perm (gr (ci l p) (rng l.length) (min b 64)) := by rw [hf]; exact sort_perm _
  have pm : m.Perm (gr (ci l p) (ord l p) (min b 64)) := by rw [hm]; exact sort_perm _
  have EF : Ev (fun k => quota_First.f k l b p) f := by rw [hf]; exact first_ok l p b hp0 hb0 hl'
  have EM : Ev (fun k => quota_Most.f k l b p) m := by rw [hm]; exact most_ok l p b hp0 hb0 hl'
  have hle1 := hle _ (List.Perm.refl _)
  have hle2 := hle _ (ord_perm l p)
  have SF := sum_ok l p hp0 F (by omega) (hin F hF2)
  have Sf := sum_ok l p hp0 f (by rw [pf.length_eq]; omega) (fun i hi => hin _ hfirst i (pf.mem_iff.1 hi))
  have Sm := sum_ok l p hp0 m (by rw [pm.length_eq]; omega) (fun i hi => hin _ hmost i (pm.mem_iff.1 hi))
  have sf := su_perm (ci l p) pf
  have sm := su_perm (ci l p) pm
  have q1 := hbest _ hfirst
  have q2 := hbest _ hF2
  have q3 := hF4 _ hfirst
  have q4 := hF4 _ hmost
  have q5 := hfirst.2.2
  have q6 := hmost.2.2
  have q7 := hF2.2.2
  refine ev_bind (wishes_ok l (by omega)) ?_
  refine ev_bind EF ?_
  refine ev_bind EM ?_
  refine ev_bind hF1 ?_
  simp only [if_pos (show (m.length : Int) ≥ (f.length : Int) by rw [pm.length_eq, pf.length_eq]; omega), if_pos (show (m.length : Int) ≥ (F.length : Int) by rw [pm.length_eq]; omega), mn_min]
  refine ev_bind SF ?_
  refine ev_bind Sf ?_
  refine ev_pos (by rw [sf]; exact q3) ?_
  refine ev_bind SF ?_
  refine ev_bind Sm ?_
  refine ev_pos (by rw [sm]; exact q4) ?_
  refine ev_bind SF ?_
  refine ev_pos (by exact q7) ?_
  refine ev_bind Sm ?_
  refine ev_pos (by rw [sm]; exact q6) ?_
  refine ev_bind Sf ?_
  rw [show decide (su (ci l p) f ≤ min b 64) = true by rw [decide_eq_true_eq, sf]; exact q5]
  exact ev_const _
end Go.Proofs.Ytpcpllabegfdjaa.Qt
