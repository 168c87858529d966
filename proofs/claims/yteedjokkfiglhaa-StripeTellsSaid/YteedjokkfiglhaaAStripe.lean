-- Cut by a program of this session (wip/pr/pack.py) to what one claim needs.
import Derived.Test.YteedjokkfiglhaaAPx0
import Derived.Test.YteedjokkfiglhaaAPx1
import Derived.Test.YteedjokkfiglhaaAPx2
import Derived.Test.YteedjokkfiglhaaAPx3
import Derived.Test.YteedjokkfiglhaaAPx4
import Derived.Test.YteedjokkfiglhaaAPx5
import Derived.Test.YteedjokkfiglhaaAPx6
import Derived.Test.YteedjokkfiglhaaAPx7
import Derived.Test.YteedjokkfiglhaaAPx8
import Derived.Test.YteedjokkfiglhaaAPx9
import Derived.Test.YteedjokkfiglhaaAPx10
import Derived.Test.YteedjokkfiglhaaAGen
namespace Go.Proofs.Yteedjokkfiglhaa.St
open Go.RowKit Go.Proofs.YteedjokkfiglhaaW.PrintWords Go.Proofs.YteedjokkfiglhaaW.PrintLast Go.Proofs.YteedjokkfiglhaaW.PrintMore Go.Proofs.Yteedjokkfiglhaa.P Go.Proofs.Yteedjokkfiglhaa.X Go.Proofs.Yteedjokkfiglhaa.Gen
set_option linter.unusedVariables false
def Gd (C D B P : Int) : Prop := 1 ≤ C ∧ C ≤ 64 ∧ 1 ≤ D ∧ D ≤ 64 ∧ 1 ≤ B ∧ B ≤ 64 ∧ 2 ≤ P ∧ P ≤ 16 ∧ 2 < C * D * B ∧ C * D * B ≤ 64
theorem prod_w {C D B : Int} (h1 : 1 ≤ C) (h2 : C ≤ 64) (h3 : 1 ≤ D) (h4 : D ≤ 64) (h5 : 1 ≤ B) (h6 : B ≤ 64) : wrap64 (wrap64 (C * D) * B) = C * D * B := by
 have a1 : C * D ≤ 64 * 64 := Int.mul_le_mul h2 h4 (by omega) (by omega)
 have a0 : 0 ≤ C * D := Int.mul_nonneg (by omega) (by omega)
 have b1 : C * D * B ≤ 64 * 64 * 64 := Int.mul_le_mul a1 h6 (by omega) (by omega)
 have b0 : 0 ≤ C * D * B := Int.mul_nonneg a0 (by omega)
 rw [w64 (x := C * D) (by omega) (by omega), w64 (by omega) (by omega)]
theorem check_f (C D B P : Int) : ∃ e, Ev (fun k => geom_Check.f k C D B P) e ∧ (e = 0 ↔ Gd C D B P) := by
 have key : ∀ b : Bool, ∃ e, Ev (fun k => geom_Check.j0 k (mx (mx C D) B) b C D B P) e ∧ (e = 0 ↔ b = false ∧ ¬ (mx (mx C D) B > 64) ∧ ¬ P > 16 ∧ ¬ wrap64 (wrap64 (C * D) * B) ≤ 2 ∧ ¬ wrap64 (wrap64 (C * D) * B) > 64) := by
  intro b
  by_cases h1 : b = true
  ·exact ⟨1, ev_succ (fun k => by rw [geom_Check.j0]) (by simp only [h1, if_true]; exact ev_const _), by simp [h1]⟩
  ·by_cases h2 : mx (mx C D) B > 64
   ·exact ⟨4, ev_succ (fun k => by rw [geom_Check.j0]) (by simp only [if_neg h1, if_pos h2]; exact ev_const _), by simp [h2]⟩
   ·by_cases h3 : P > 16
    ·exact ⟨4, ev_succ (fun k => by rw [geom_Check.j0]) (by simp only [if_neg h1, if_neg h2, if_pos h3]; exact ev_const _), by simp [h3]⟩
    ·by_cases h4 : wrap64 (wrap64 (C * D) * B) ≤ 2
     ·exact ⟨1, ev_succ (fun k => by rw [geom_Check.j0]) (by simp only [if_neg h1, if_neg h2, if_neg h3, if_pos h4]; exact ev_const _), by simp [h4]⟩
     ·by_cases h5 : wrap64 (wrap64 (C * D) * B) > 64
      ·exact ⟨4, ev_succ (fun k => by rw [geom_Check.j0]) (by simp only [if_neg h1, if_neg h2, if_neg h3, if_neg h4, if_pos h5]; exact ev_const _), by simp [h5]⟩
      ·exact ⟨0, ev_succ (fun k => by rw [geom_Check.j0]) (by simp only [if_neg h1, if_neg h2, if_neg h3, if_neg h4, if_neg h5]; exact ev_const _), by simp [h2, h3, h4, h5, (by simpa using h1 : b = false)]⟩
 by_cases h0 : mn (mn C D) B < 1
 ·obtain ⟨e, h, he⟩ := key true
  refine ⟨e, ev_congr (fun k => by rw [geom_Check.f, if_pos h0]) h, ?_⟩
  rw [he]
  simp only [mn_min] at h0
  unfold Gd
  constructor
  ·rintro ⟨h, _⟩; cases h
  ·intro h; omega
 ·obtain ⟨e, h, he⟩ := key (decide (P < 2))
  refine ⟨e, ev_congr (fun k => by rw [geom_Check.f, if_neg h0]) h, ?_⟩
  rw [he]
  simp only [mn_min] at h0
  simp only [mx_max, decide_eq_false_iff_not]
  unfold Gd
  constructor
  ·rintro ⟨a1, a2, a3, a4, a5⟩
   rw [prod_w (by omega) (by omega) (by omega) (by omega) (by omega) (by omega)] at a4 a5
   omega
  ·intro h
   rw [prod_w (by omega) (by omega) (by omega) (by omega) (by omega) (by omega)]
   omega
theorem check_ref (C D B P : Int) : ∃ e, Ev (fun k => almshouseref04_Check.f k C D B P) e ∧ (e = 0 ↔ Gd C D B P) := by
 have key1 : ∀ b : Bool, ∃ e, Ev (fun k => almshouseref04_Check.j1 k b C D B P) e ∧ (e = 0 ↔ b = false ∧ ¬ wrap64 (wrap64 (C * D) * B) < 3 ∧ ¬ wrap64 (wrap64 (C * D) * B) > 64) := by
  intro b
  by_cases h1 : b = true
  ·exact ⟨4, ev_succ (fun k => by rw [almshouseref04_Check.j1]) (by simp only [h1, if_true]; exact ev_const _), by simp [h1]⟩
  ·by_cases h4 : wrap64 (wrap64 (C * D) * B) < 3
   ·exact ⟨1, ev_succ (fun k => by rw [almshouseref04_Check.j1]) (by simp only [if_neg h1, if_pos h4]; exact ev_const _), by simp [h4]⟩
   ·by_cases h5 : wrap64 (wrap64 (C * D) * B) > 64
    ·exact ⟨4, ev_succ (fun k => by rw [almshouseref04_Check.j1]) (by simp only [if_neg h1, if_neg h4, if_pos h5]; exact ev_const _), by simp [h5]⟩
    ·exact ⟨0, ev_succ (fun k => by rw [almshouseref04_Check.j1]) (by simp only [if_neg h1, if_neg h4, if_neg h5]; exact ev_const _), by simp [h4, h5, (by simpa using h1 : b = false)]⟩
 have key : ∀ b : Bool, ∃ e, Ev (fun k => almshouseref04_Check.j0 k b C D B P) e ∧ (e = 0 ↔ b = false ∧ ¬ (C > 64) ∧ ¬ D > 64 ∧ ¬ B > 64 ∧ ¬ P > 16 ∧ ¬ wrap64 (wrap64 (C * D) * B) < 3 ∧ ¬ wrap64 (wrap64 (C * D) * B) > 64) := by
  intro b
  obtain ⟨et, ht, hte⟩ := key1 true
  by_cases h1 : b = true
  ·exact ⟨1, ev_succ (fun k => by rw [almshouseref04_Check.j0]) (by simp only [h1, if_true]; exact ev_const _), by simp [h1]⟩
  ·by_cases h2 : C > 64
   ·exact ⟨et, ev_succ (fun k => by rw [almshouseref04_Check.j0]) (by simp only [if_neg h1, if_pos h2]; exact ht), by rw [hte]; simp [h2]⟩
   ·by_cases h3 : D > 64
    ·exact ⟨et, ev_succ (fun k => by rw [almshouseref04_Check.j0]) (by simp only [if_neg h1, if_neg h2, if_pos h3]; exact ht), by rw [hte]; simp [h3]⟩
    ·by_cases h4 : B > 64
     ·exact ⟨et, ev_succ (fun k => by rw [almshouseref04_Check.j0]) (by simp only [if_neg h1, if_neg h2, if_neg h3, if_pos h4]; exact ht), by rw [hte]; simp [h4]⟩
     ·obtain ⟨e, h, he⟩ := key1 (decide (P > 16))
      exact ⟨e, ev_succ (fun k => by rw [almshouseref04_Check.j0]) (by simp only [if_neg h1, if_neg h2, if_neg h3, if_neg h4]; exact h), by rw [he]; simp [h2, h3, h4, (by simpa using h1 : b = false)]⟩
 have fin : ∀ e : Int, (e = 0 ↔ true = false ∧ ¬ (C > 64) ∧ ¬ D > 64 ∧ ¬ B > 64 ∧ ¬ P > 16 ∧ ¬ wrap64 (wrap64 (C * D) * B) < 3 ∧ ¬ wrap64 (wrap64 (C * D) * B) > 64) → ¬ Gd C D B P → (e = 0 ↔ Gd C D B P) := by
  intro e h1 h2
  rw [h1]
  constructor
  ·rintro ⟨h, _⟩; cases h
  ·intro h; exact absurd h h2
 obtain ⟨et, ht, hte⟩ := key true
 by_cases h1 : C < 1
 ·exact ⟨et, ev_congr (fun k => by rw [almshouseref04_Check.f, if_pos h1]) ht, fin et hte (by unfold Gd; omega)⟩
 ·by_cases h2 : D < 1
  ·exact ⟨et, ev_congr (fun k => by rw [almshouseref04_Check.f, if_neg h1, if_pos h2]) ht, fin et hte (by unfold Gd; omega)⟩
  ·by_cases h3 : B < 1
   ·exact ⟨et, ev_congr (fun k => by rw [almshouseref04_Check.f, if_neg h1, if_neg h2, if_pos h3]) ht, fin et hte (by unfold Gd; omega)⟩
   ·obtain ⟨e, h, he⟩ := key (decide (P < 2))
    refine ⟨e, ev_congr (fun k => by rw [almshouseref04_Check.f, if_neg h1, if_neg h2, if_neg h3]) h, ?_⟩
    rw [he]
    simp only [decide_eq_false_iff_not]
    unfold Gd
    constructor
    ·rintro ⟨a1, a2, a3, a4, a5, a6, a7⟩
     rw [prod_w (by omega) (by omega) (by omega) (by omega) (by omega) (by omega)] at a6 a7
     omega
    ·intro h
     rw [prod_w (by omega) (by omega) (by omega) (by omega) (by omega) (by omega)]
     omega
section
variable {C D B P : Int} (hG : Gd C D B P)
include hG
theorem check_ok : Ev (fun k => geom_Check.f k C D B P) 0 := by
 obtain ⟨e, h, he⟩ := check_f C D B P
 rw [← he.2 hG]; exact h
theorem check_ok' : Ev (fun k => almshouseref04_Check.f k C D B P) 0 := by
 obtain ⟨e, h, he⟩ := check_ref C D B P
 rw [← he.2 hG]; exact h
theorem prodG : wrap64 (wrap64 (C * D) * B) = C * D * B := prod_w hG.1 hG.2.1 hG.2.2.1 hG.2.2.2.1 hG.2.2.2.2.1 hG.2.2.2.2.2.1
theorem blocks_ok : Ev (fun k => geom_Blocks.f k C D B P) (C * D * B) := by
 unfold geom_Blocks.f
 refine ev_bind (check_ok hG) ?_
 simp only [if_true, prodG hG]
 exact ev_const _
theorem nP : 0 < C * D * B * P ∧ C * D * B * P ≤ 1024 := by
 obtain ⟨h1, h2, h3, h4, h5, h6, h7, h8, h9, h10⟩ := hG
 refine ⟨Int.mul_pos (by omega) (by omega), ?_⟩
 have : C * D * B * P ≤ 64 * 16 := Int.mul_le_mul h10 h8 (by omega) (by omega)
 omega
theorem split_any (n : Int) : ∃ r, Ev (fun k => geom_Split.f k C D B P n) r := by
 have hb := blocks_ok hG
 by_cases h1 : n < 0
 ·exact ⟨(0, 0, 0, 0, 5), by unfold geom_Split.f; refine ev_bind (check_ok hG) ?_; simp only [if_true, h1]; exact ev_const _⟩
 ·by_cases h2 : n ≥ wrap64 (C * D * B * P)
  ·exact ⟨(0, 0, 0, 0, 5), by unfold geom_Split.f; refine ev_bind (check_ok hG) ?_; simp only [if_true, if_neg h1]; refine ev_bind hb ?_; simp only [if_pos h2]; exact ev_const _⟩
  ·have g := hG
   unfold Gd at g
   refine ⟨(Int.tmod (wrap64 (Int.tdiv n P)) C, Int.tmod (wrap64 (Int.tdiv (wrap64 (Int.tdiv n P)) C)) D, wrap64 (Int.tdiv (wrap64 (Int.tdiv (wrap64 (Int.tdiv n P)) C)) D), Int.tmod n P, 0), ?_⟩
   unfold geom_Split.f
   refine ev_bind (check_ok hG) ?_
   simp only [if_true, if_neg h1]
   refine ev_bind hb ?_
   simp only [if_neg h2, if_neg (show ¬ P = 0 by omega), if_neg (show ¬ C = 0 by omega), if_neg (show ¬ D = 0 by omega)]
   exact ev_const _
theorem split_in (b : Int) (h0 : 0 ≤ b) (h1 : b < C * D * B) : ∃ x y z, Ev (fun k => geom_Split.f k C D B P (wrap64 (b * P))) (b % C, x, y, z, 0) := by
 have hb := blocks_ok hG
 obtain ⟨hn1, hn2⟩ := nP hG
 have g := hG
 unfold Gd at g
 have e1 : b * P < C * D * B * P := Int.mul_lt_mul_of_pos_right h1 (by omega)
 have e0 : 0 ≤ b * P := Int.mul_nonneg h0 (by omega)
 have e2 : wrap64 (b * P) = b * P := w64 (by omega) (by omega)
 have e3 : wrap64 (C * D * B * P) = C * D * B * P := w64 (by omega) (by omega)
 have e4 : Int.tdiv (b * P) P = b := Int.mul_tdiv_cancel _ (by omega)
 have e5 : Int.tmod b C = b % C := Int.tmod_eq_emod_of_nonneg h0
 refine ⟨Int.tmod (wrap64 (Int.tdiv b C)) D, wrap64 (Int.tdiv (wrap64 (Int.tdiv b C)) D), Int.tmod (b * P) P, ?_⟩
 rw [e2, ← e5]
 unfold geom_Split.f
 refine ev_bind (check_ok hG) ?_
 simp only [if_true, if_neg (show ¬ b * P < 0 by omega)]
 refine ev_bind hb ?_
 simp only [e3, if_neg (show ¬ b * P ≥ C * D * B * P by omega), if_neg (show ¬ P = 0 by omega), if_neg (show ¬ C = 0 by omega), if_neg (show ¬ D = 0 by omega), e4, w64 (x := b) (by omega) (by omega)]
 exact ev_const _
theorem split_out (b : Int) (h0 : 0 ≤ b) (h1 : b < 64) (h2 : ¬ b < C * D * B) : Ev (fun k => geom_Split.f k C D B P (wrap64 (b * P))) (0, 0, 0, 0, 5) := by
 have hb := blocks_ok hG
 obtain ⟨hn1, hn2⟩ := nP hG
 have g := hG
 unfold Gd at g
 have e1 : C * D * B * P ≤ b * P := Int.mul_le_mul_of_nonneg_right (by omega) (by omega)
 have e0 : b * P ≤ 64 * 16 := Int.mul_le_mul (by omega) (by omega) (by omega) (by omega)
 have e2 : wrap64 (b * P) = b * P := w64 (by omega) (by omega)
 have e3 : wrap64 (C * D * B * P) = C * D * B * P := w64 (by omega) (by omega)
 rw [e2]
 unfold geom_Split.f
 refine ev_bind (check_ok hG) ?_
 simp only [if_true, if_neg (show ¬ b * P < 0 by omega)]
 refine ev_bind hb ?_
 simp only [e3, if_pos (show b * P ≥ C * D * B * P by omega)]
 exact ev_const _
end
def Ln (C N : Int) (t : List Int) (c : Nat) : List Int := t.filter fun b => decide (0 ≤ b) && decide (b < N) && decide (b % C = c)
def R (C N : Int) (l : List Int) (c : Nat) : List Int := ((List.range N.toNat).map fun n : Nat => (n : Int)).filter fun b => decide (b % C = c) && decide (b ∈ l)
theorem R_sorted (C N : Int) (l : List Int) (c : Nat) : (R C N l c).Pairwise (· < ·) := by
 unfold R
 refine List.Pairwise.filter _ ?_
 rw [List.pairwise_map]
 exact List.pairwise_lt_range.imp (fun h => by omega)
theorem R_mem (C N : Int) (l : List Int) (c : Nat) (x : Int) : x ∈ R C N l c ↔ 0 ≤ x ∧ x < N ∧ x % C = c ∧ x ∈ l := by
 unfold R
 simp only [List.mem_filter, List.mem_map, List.mem_range, Bool.and_eq_true, decide_eq_true_eq]
 constructor
 ·rintro ⟨⟨n, hn, rfl⟩, h1, h2⟩
  exact ⟨by omega, by omega, h1, h2⟩
 ·rintro ⟨h0, h1, h2, h3⟩
  exact ⟨⟨x.toNat, by omega, by omega⟩, h2, h3⟩
theorem Ln_R (C N : Int) (l : List Int) (c : Nat) : Ln C N (Lib.compact (l.mergeSort fun x y => decide (x ≤ y))) c = R C N l c := by
 refine sorted_ext (List.Pairwise.filter _ (compact_sorted (sort_sorted l))) (R_sorted _ _ _ _) (fun x => ?_)
 rw [R_mem]
 unfold Ln
 simp only [List.mem_filter, Bool.and_eq_true, decide_eq_true_eq, compact_mem, List.mem_mergeSort]
 constructor
 ·rintro ⟨h1, ⟨h2, h3⟩, h4⟩; exact ⟨h2, h3, h4, h1⟩
 ·rintro ⟨h2, h3, h4, h1⟩; exact ⟨h1, ⟨h2, h3⟩, h4⟩
theorem R_len (C N : Int) (l : List Int) (c : Nat) : (R C N l c).length ≤ N.toNat := by
 unfold R
 exact Nat.le_trans (List.length_filter_le _ _) (by simp)
def Rs (C N : Int) (l : List Int) : List (List Int) := (List.range C.toNat).map (R C N l)
theorem Rs_len (C N : Int) (l : List Int) : (Rs C N l).length = C.toNat := by simp [Rs]
theorem rd_Rs {C N : Int} {l : List Int} {c : Nat} (h : c < C.toNat) : rd_L1 (Rs C N l) (c : Int) = R C N l c := by
 unfold rd_L1 Rs
 rw [List.getD_eq_getElem?_getD, Int.toNat_natCast, List.getElem?_map, List.getElem?_range h]; rfl
theorem lanes_l0 {C D B P : Int} (hG : Gd C D B P) (t : List Int) (ht : t.length ≤ 1000) : ∀ (d : Nat) (i : Nat), i + d = t.length →
  Ev (fun k => stripe_lanes.l0 k ((List.range C.toNat).map (Ln C (C * D * B) (t.take i))) t (t.length : Int) (i : Int) C D B P) ((List.range C.toNat).map (Ln C (C * D * B) t)) := by
 intro d
 induction d with
 | zero =>
  intro i hi
  obtain rfl : i = t.length := by omega
  refine ev_succ (fun k => by rw [stripe_lanes.l0]) ?_
  simp only [Int.lt_irrefl, if_false, List.take_length]
  exact ev_const _
 | succ d ih =>
  intro i hi
  have hlt : i < t.length := by omega
  have hr : rd t (i : Int) = t[i] := rd_nat hlt
  have g := hG
  unfold Gd at g
  have hskip : (¬ (0 ≤ t[i] ∧ t[i] < C * D * B)) → (List.range C.toNat).map (Ln C (C * D * B) (t.take i)) = (List.range C.toNat).map (Ln C (C * D * B) (t.take (i + 1))) := by
   intro hno
   refine List.map_congr_left (fun c hc => ?_)
   unfold Ln
   rw [List.take_succ_eq_append_getElem hlt, List.filter_append]
   have : (List.filter (fun b => decide (0 ≤ b) && decide (b < C * D * B) && decide (b % C = (c : Int))) [t[i]]) = [] := by
    rw [List.filter_eq_nil_iff]
    intro a ha
    rw [List.mem_singleton] at ha
    subst ha
    simp only [Bool.and_eq_true, decide_eq_true_eq, not_and]
    intro h1 h2
    exact absurd h1 hno
   rw [this, List.append_nil]
  refine ev_succ (fun k => by rw [stripe_lanes.l0]) ?_
  simp only [if_pos (show (i : Int) < (t.length : Int) by omega), if_pos (show (0 : Int) ≤ (i : Int) by omega), hr, nx (j := i) (by omega)]
  by_cases h0 : t[i] ≥ 0
  ·by_cases h1 : t[i] < 64
   ·by_cases h2 : t[i] < C * D * B
    ·obtain ⟨x, y, z, hs⟩ := split_in hG t[i] h0 h2
     refine ev_bind hs ?_
     have hm0 : 0 ≤ t[i] % C := Int.emod_nonneg _ (by omega)
     have hm1 : t[i] % C < C := Int.emod_lt_of_pos _ (by omega)
     obtain ⟨c0, hc0⟩ : ∃ c0 : Nat, t[i] % C = (c0 : Int) := ⟨(t[i] % C).toNat, by omega⟩
     have hc1 : c0 < C.toNat := by omega
     have hlen : (((List.range C.toNat).map (Ln C (C * D * B) (t.take i))).length : Int) = C := by simp; omega
     have hrd : rd_L1 ((List.range C.toNat).map (Ln C (C * D * B) (t.take i))) (c0 : Int) = Ln C (C * D * B) (t.take i) c0 := by
      unfold rd_L1
      rw [List.getD_eq_getElem?_getD, Int.toNat_natCast, List.getElem?_map, List.getElem?_range hc1]; rfl
     have hll : (Ln C (C * D * B) (t.take i) c0).length < 17592186044416 := by
      have := List.length_filter_le (fun b => decide (0 ≤ b) && decide (b < C * D * B) && decide (b % C = (c0 : Int))) (t.take i)
      unfold Ln
      have h3 : (t.take i).length ≤ t.length := by simp; omega
      omega
     simp only [if_pos h0, if_pos h1, if_true, hc0, if_pos (show (0 : Int) ≤ (c0 : Int) by omega), hlen, if_pos (show (c0 : Int) < C by omega), hrd, if_pos hll, Int.toNat_natCast]
     have hset : ((List.range C.toNat).map (Ln C (C * D * B) (t.take i))).set c0 (Ln C (C * D * B) (t.take i) c0 ++ [t[i]]) = (List.range C.toNat).map (Ln C (C * D * B) (t.take (i + 1))) := by
      apply List.ext_getElem
      ·simp
      ·intro j hj1 hj2
       rw [List.getElem_set]
       simp only [List.getElem_map, List.getElem_range]
       have hsplit : Ln C (C * D * B) (t.take (i + 1)) j = Ln C (C * D * B) (t.take i) j ++ (if t[i] % C = (j : Int) then [t[i]] else []) := by
        unfold Ln
        rw [List.take_succ_eq_append_getElem hlt, List.filter_append]
        congr 1
        by_cases e : t[i] % C = (j : Int)
        ·rw [if_pos e]; simp only [List.filter_cons, List.filter_nil, e]; simp [h0, h2]
        ·rw [if_neg e]; simp [e]
       rw [hsplit]
       by_cases e : c0 = j
       ·subst e; rw [if_pos rfl, if_pos hc0]
       ·rw [if_neg e, if_neg (by omega), List.append_nil]
     rw [hset]
     exact ih (i + 1) (by omega)
    ·refine ev_bind (split_out hG t[i] h0 h1 h2) ?_
     simp only [if_pos h0, if_pos h1, if_neg (show ¬ (5 : Int) = 0 by decide)]
     rw [hskip (by omega)]
     exact ih (i + 1) (by omega)
   ·obtain ⟨r, hs⟩ := split_any hG (wrap64 (t[i] * P))
    refine ev_bind hs ?_
    simp only [if_pos h0, if_neg h1]
    rw [hskip (by omega)]
    exact ih (i + 1) (by omega)
  ·obtain ⟨r, hs⟩ := split_any hG (wrap64 (t[i] * P))
   refine ev_bind hs ?_
   simp only [if_neg h0]
   rw [hskip (by omega)]
   exact ih (i + 1) (by omega)
theorem lanes_ok {C D B P : Int} (hG : Gd C D B P) (l : List Int) (hl : l.length ≤ 40) : Ev (fun k => stripe_lanes.f k C D B P l) (Rs C (C * D * B) l) := by
 have g := hG
 unfold Gd at g
 unfold stripe_lanes.f
 refine ev_bind (check_ok hG) ?_
 simp only [if_true, if_pos (show 0 ≤ C by omega), if_pos (show C.toNat ≤ 11728124029610 by omega)]
 refine ev_bind (ev_of (a := l) (by unfold slices_Clone_int_int.f; rw [if_pos (by omega)])) ?_
 refine ev_bind (ev_of (a := l.mergeSort fun x y => decide (x ≤ y)) (by unfold slices_Sort_int_int.f; rw [if_pos (by omega)])) ?_
 have hlen : (l.mergeSort fun x y => decide (x ≤ y)).length = l.length := List.length_mergeSort _
 refine ev_bind (ev_of (a := Lib.compact (l.mergeSort fun x y => decide (x ≤ y))) (by unfold slices_Compact_int_int.f; rw [if_pos (by omega)])) ?_
 have hc := xcompact_le (l.mergeSort fun x y => decide (x ≤ y))
 have := lanes_l0 hG (Lib.compact (l.mergeSort fun x y => decide (x ≤ y))) (by omega) _ 0 (by rw [Nat.zero_add])
 have e1 : (List.range C.toNat).map (Ln C (C * D * B) ((Lib.compact (l.mergeSort fun x y => decide (x ≤ y))).take 0)) = List.replicate C.toNat [] := by
  apply List.ext_getElem
  ·simp
  ·intro i h1 h2; simp [Ln]
 have e2 : (List.range C.toNat).map (Ln C (C * D * B) (Lib.compact (l.mergeSort fun x y => decide (x ≤ y)))) = Rs C (C * D * B) l := List.map_congr_left (fun c _ => Ln_R _ _ _ _)
 rw [e1, e2] at this
 exact this
theorem has_ok (l : List Int) (b : Int) (hl : l.length ≤ 1000) : Ev (fun k => almshouseref37_has.f k l b) (decide (b ∈ l)) := by
 have key : ∀ (d i : Nat), i + d = l.length → Ev (fun k => almshouseref37_has.l0 k b l (l.length : Int) (i : Int)) (decide (b ∈ l.drop i)) := by
  intro d
  induction d with
  | zero =>
   intro i hi
   obtain rfl : i = l.length := by omega
   refine ev_succ (fun k => by rw [almshouseref37_has.l0]) ?_
   simp only [Int.lt_irrefl, if_false, List.drop_length, List.not_mem_nil, decide_false]
   exact ev_const _
  | succ d ih =>
   intro i hi
   have hlt : i < l.length := by omega
   refine ev_succ (fun k => by rw [almshouseref37_has.l0]) ?_
   simp only [if_pos (show (i : Int) < (l.length : Int) by omega), if_pos (show (0 : Int) ≤ (i : Int) by omega), rd_nat hlt]
   rw [List.drop_eq_getElem_cons hlt]
   by_cases e : l[i] = b
   ·simp only [if_pos e]
    rw [show decide (b ∈ l[i] :: List.drop (i + 1) l) = true by simp [e]]
    exact ev_const _
   ·simp only [if_neg e]
    have : (wrap64 ((i : Int) + 1)) = ((i + 1 : Nat) : Int) := by rw [w64 (by omega) (by omega)]; omega
    rw [this, show decide (b ∈ l[i] :: List.drop (i + 1) l) = decide (b ∈ List.drop (i + 1) l) by
     rw [decide_eq_decide, List.mem_cons]; exact ⟨fun h => h.resolve_left (fun h => e h.symm), .inr⟩]
    exact ih (i + 1) (by omega)
 unfold almshouseref37_has.f
 have := key l.length 0 (by omega)
 simpa using this
theorem lane_l0 {C D B P : Int} (hG : Gd C D B P) (l : List Int) (hl : l.length ≤ 1000) (c : Nat) : ∀ (d : Nat) (b : Int) (acc : List Int), C * D * B - b ≤ d → 0 ≤ b → b ≤ 200 → b % C = c →
  acc.length ≤ b.toNat → acc.Pairwise (· < ·) → (∀ x, x ∈ acc ↔ 0 ≤ x ∧ x < b ∧ x % C = c ∧ x ∈ l) → (∀ x, x ∈ acc → x < C * D * B) →
  Ev (fun k => almshouseref37_Lane.l0 k l acc b C D B P) (R C (C * D * B) l c) := by
 have g := hG
 unfold Gd at g
 intro d
 induction d with
 | zero =>
  intro b acc hd h0 hb hm hal hs hmem hlt
  refine ev_succ (fun k => by rw [almshouseref37_Lane.l0]) ?_
  simp only [prodG hG, if_neg (show ¬ b < C * D * B by omega)]
  rw [show R C (C * D * B) l c = acc from sorted_ext (R_sorted _ _ _ _) hs (fun x => by
   rw [R_mem, hmem]
   constructor
   ·rintro ⟨a1, a2, a3, a4⟩; exact ⟨a1, by omega, a3, a4⟩
   ·rintro ⟨a1, a2, a3, a4⟩; exact ⟨a1, hlt x ((hmem x).2 ⟨a1, a2, a3, a4⟩), a3, a4⟩)]
  exact ev_const _
 | succ d ih =>
  intro b acc hd h0 hb hm hal hs hmem hlt
  refine ev_succ (fun k => by rw [almshouseref37_Lane.l0]) ?_
  simp only [prodG hG]
  by_cases hin : b < C * D * B
  ·simp only [if_pos hin]
   refine ev_bind (has_ok l b hl) ?_
   have hw : wrap64 (b + C) = b + C := w64 (by omega) (by omega)
   have hm' : (b + C) % C = c := by rw [Int.add_emod_right]; exact hm
   have hgap : ∀ x, b < x → x < b + C → x % C ≠ c := by
    intro x hx1 hx2 he
    have e1 := Int.emod_emod_of_dvd (x - b) (Int.dvd_refl C)
    have e2 : (x - b) % C = 0 := by rw [Int.sub_emod, he, hm]; simp
    rw [Int.emod_eq_of_lt (by omega) (by omega)] at e2
    omega
   by_cases e : b ∈ l
   ·simp only [e, decide_true, if_true, if_pos (show acc.length < 17592186044416 by omega), hw]
    refine ih (b + C) (acc ++ [b]) (by omega) (by omega) (by omega) hm' (by simp; omega) ?_ ?_ ?_
    ·refine List.pairwise_append.2 ⟨hs, List.pairwise_singleton _ _, fun a ha b' hb' => ?_⟩
     rw [List.mem_singleton] at hb'
     subst hb'
     exact ((hmem a).1 ha).2.1
    ·intro x
     rw [List.mem_append, hmem, List.mem_singleton]
     constructor
     ·rintro (⟨a1, a2, a3, a4⟩ | rfl)
      ·exact ⟨a1, by omega, a3, a4⟩
      ·exact ⟨h0, by omega, hm, e⟩
     ·rintro ⟨a1, a2, a3, a4⟩
      by_cases hxb : x < b
      ·exact .inl ⟨a1, hxb, a3, a4⟩
      ·by_cases hxe : x = b
       ·exact .inr hxe
       ·exact absurd a3 (hgap x (by omega) a2)
    ·intro x hx
     rcases List.mem_append.1 hx with hx | hx
     ·exact hlt x hx
     ·rw [List.mem_singleton] at hx; subst hx; exact hin
   ·simp only [e, decide_false, Bool.false_eq_true, if_false, hw]
    refine ih (b + C) acc (by omega) (by omega) (by omega) hm' (by omega) hs ?_ hlt
    intro x
    rw [hmem]
    constructor
    ·rintro ⟨a1, a2, a3, a4⟩; exact ⟨a1, by omega, a3, a4⟩
    ·rintro ⟨a1, a2, a3, a4⟩
     by_cases hxb : x < b
     ·exact ⟨a1, hxb, a3, a4⟩
     ·by_cases hxe : x = b
      ·subst hxe; exact absurd a4 e
      ·exact absurd a3 (hgap x (by omega) a2)
  ·simp only [if_neg hin]
   rw [show R C (C * D * B) l c = acc from sorted_ext (R_sorted _ _ _ _) hs (fun x => by
    rw [R_mem, hmem]
    constructor
    ·rintro ⟨a1, a2, a3, a4⟩; exact ⟨a1, by omega, a3, a4⟩
    ·rintro ⟨a1, a2, a3, a4⟩; exact ⟨a1, hlt x ((hmem x).2 ⟨a1, a2, a3, a4⟩), a3, a4⟩)]
   exact ev_const _
theorem lane_ok {C D B P : Int} (hG : Gd C D B P) (l : List Int) (hl : l.length ≤ 1000) (c : Nat) (hc : c < C.toNat) : Ev (fun k => almshouseref37_Lane.f k C D B P l (c : Int)) (R C (C * D * B) l c) := by
 unfold almshouseref37_Lane.f
 have g := hG
 unfold Gd at g
 refine lane_l0 hG l hl c (C * D * B - c).toNat (c : Int) [] (by omega) (by omega) (by omega) (Int.emod_eq_of_lt (by omega) (by omega)) (by simp) List.Pairwise.nil ?_ (by simp)
 intro x
 simp only [List.not_mem_nil, false_iff]
 rintro ⟨a1, a2, a3, _⟩
 rw [Int.emod_eq_of_lt a1 (by omega)] at a3
 omega
end Go.Proofs.Yteedjokkfiglhaa.St
