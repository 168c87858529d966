-- Cut by a program of this session (wip/pr/pack.py) to what one claim needs.
import Derived.Test.YteedjokkfiglhaaAStripeC
namespace Go.Proofs.Yteedjokkfiglhaa.St
open Go.RowKit Go.Proofs.YteedjokkfiglhaaW.PrintWords Go.Proofs.YteedjokkfiglhaaW.PrintLast Go.Proofs.YteedjokkfiglhaaW.PrintMore Go.Proofs.Yteedjokkfiglhaa.P Go.Proofs.Yteedjokkfiglhaa.X Go.Proofs.Yteedjokkfiglhaa.Gen
set_option linter.unusedVariables false
set_option linter.unusedSimpArgs false
theorem sort_two : ([2, 5] : List Int).mergeSort (fun x y => decide (x ≤ y)) = [2, 5] :=
 sorted_perm (sort_sorted _) (by decide) (List.mergeSort_perm _ _)
theorem fixed_ok : Ev (fun k => almshouselaw37_fixed.f k) true := by
 have hG : Gd 2 1 4 4 := by unfold Gd; decide
 have hp := pick_ok hG [2, 4, 6, 5] (by decide) 2 (by decide)
 have e : pk (Rs 2 (2 * 1 * 4) [2, 4, 6, 5]) 2 (List.replicate (2 : Int).toNat 0) [] = some ([1, 1], [2, 5]) := by decide
 rw [e] at hp
 have hp' : Ev (fun k => stripe_Pick.f k 2 1 4 4 [2, 4, 6, 5] 2) ([2, 5], true) := by
  rw [show (([2, 5] : List Int), true) = pkr (some ([1, 1], [2, 5])) by rw [pkr, sort_two]]
  exact hp
 have ho := order_ok hG [2, 3, 4] (by decide)
 have eo : Od 2 (2 * 1 * 4) [2, 3, 4] = [2, 3, 4] := by decide
 rw [eo] at ho
 have h1 := even_ok hG [2, 5] (by decide)
 rw [show decide (spread (Ld 2 (2 * 1 * 4) [2, 5]) ≤ 1) = true by decide] at h1
 have h2 := even_ok hG [2, 4] (by decide)
 rw [show decide (spread (Ld 2 (2 * 1 * 4) [2, 4]) ≤ 1) = false by decide] at h2
 have h3 := loads_ok hG [] (by decide)
 unfold almshouselaw37_fixed.f
 refine ev_bind hp' ?_
 refine ev_bind ho ?_
 simp only [if_true, List.length_cons, List.length_nil]
 rw [show rd ([2, 5] : List Int) 0 = 2 from rfl, show rd ([2, 5] : List Int) 1 = 5 from rfl, show rd ([2, 3, 4] : List Int) 1 = 3 from rfl]
 simp only [if_true, show ((0 + 1 + 1 : Nat) : Int) = 2 from rfl, show ((0 + 1 + 1 + 1 : Nat) : Int) = 3 from rfl, if_pos (show (0 : Int) < 2 by decide), if_pos (show (1 : Int) < 2 by decide), if_pos (show (1 : Int) < 3 by decide)]
 refine ev_bind h1 ?_
 simp only [if_true]
 refine ev_bind h2 ?_
 simp only [Bool.false_eq_true, if_false]
 refine ev_bind h3 ?_
 rw [show ((Ld 2 (2 * 1 * 4) []).length : Int) == 2 by decide]
 exact ev_const _
section
variable {C D B P : Int} (hG : ¬ Gd C D B P)
include hG
theorem no_check : ∃ e, e ≠ 0 ∧ Ev (fun k => geom_Check.f k C D B P) e := by
 obtain ⟨e, h, he⟩ := check_f C D B P
 exact ⟨e, fun h0 => hG (he.1 h0), h⟩
theorem no_lanes (l : List Int) : Ev (fun k => stripe_lanes.f k C D B P l) [] := by
 obtain ⟨e, he, h⟩ := no_check hG
 unfold stripe_lanes.f
 refine ev_bind h ?_
 simp only [if_neg he]
 exact ev_const _
theorem no_loads (l : List Int) : Ev (fun k => stripe_Loads.f k C D B P l) [] := by
 obtain ⟨e, he, h⟩ := no_check hG
 unfold stripe_Loads.f
 refine ev_bind h ?_
 simp only [if_neg he]
 exact ev_const _
theorem no_even (l : List Int) : Ev (fun k => stripe_Even.f k C D B P l) true := by
 unfold stripe_Even.f
 refine ev_bind (no_loads hG l) ?_
 simp only [List.length_nil, if_pos (show ((0 : Nat) : Int) = 0 from rfl)]
 exact ev_const _
theorem no_order (l : List Int) : Ev (fun k => stripe_Order.f k C D B P l) [] := by
 unfold stripe_Order.f
 refine ev_bind (no_lanes hG l) ?_
 refine ev_succ (fun k => by rw [stripe_Order.l0]) ?_
 refine ev_succ (fun k => by rw [stripe_Order.l1]) ?_
 simp only [List.length_nil, Int.lt_irrefl, if_false, if_pos (show ((0 : Nat) : Int) = ((0 : Nat) : Int) from rfl), if_neg (show ¬ (0 : Int) < ((0 : Nat) : Int) by decide)]
 exact ev_const _
theorem no_pick (l : List Int) (m : Int) : Ev (fun k => stripe_Pick.f k C D B P l m) ([], false) := by
 unfold stripe_Pick.f
 refine ev_bind (no_lanes hG l) ?_
 simp only [List.length_nil, if_pos (show ((0 : Nat) : Int) = 0 from rfl)]
 refine ev_succ (fun k => by rw [stripe_Pick.j0]) ?_
 simp only [if_true]
 exact ev_const _
end
theorem tells_l0 (l o1 : List Int) (b1 : Bool) (o2 : List Int) (b2 : Bool) (C D B P : Int) (x r : List Int) (res : Bool) (hr : r.length ≤ 1000)
  (H : ∀ lo hi, lo = r.foldl min (r.headD 0) → hi = r.foldl max (r.headD 0) → Ev (fun k => if (b1 == b2) = true then ((almshouselaw37_same.f k o1 o2).bind fun t278 => (if t278 = true then ((stripe_Order.f k C D B P l).bind fun t279 => ((almshouseref37_Order.f k C D B P l).bind fun t282 => ((almshouselaw37_same.f k t279 t282).bind fun t285 => (if t285 = true then ((stripe_Loads.f k C D B P l).bind fun t286 => ((almshouselaw37_same.f k t286 x).bind fun t289 => (if t289 = true then ((stripe_Even.f k C D B P l).bind fun t290 => (some (t290 == (decide ((wrap64 (hi - lo)) ≤ 1))))) else (some false)))) else (some false))))) else (some false))) else (some false)) res) :
  ∀ (d i : Nat) (lo hi : Int), i + d = r.length → (r.drop i).foldl min lo = r.foldl min (r.headD 0) → (r.drop i).foldl max hi = r.foldl max (r.headD 0) →
  Ev (fun k => almshouselaw37_StripeTells.l0 k l o1 b1 o2 b2 x lo hi r (r.length : Int) (i : Int) C D B P) res := by
 intro d
 induction d with
 | zero =>
  intro i lo hi h1 h2 h3
  obtain rfl : i = r.length := by omega
  rw [List.drop_length] at h2 h3
  refine ev_succ (fun k => by rw [almshouselaw37_StripeTells.l0]) ?_
  simp only [Int.lt_irrefl, if_false]
  exact H lo hi h2 h3
 | succ d ih =>
  intro i lo hi h1 h2 h3
  have hlt : i < r.length := by omega
  refine ev_succ (fun k => by rw [almshouselaw37_StripeTells.l0]) ?_
  simp only [if_pos (show (i : Int) < (r.length : Int) by omega), if_pos (show (0 : Int) ≤ (i : Int) by omega), rd_nat hlt, nx (j := i) (by omega), mn_min, mx_max]
  rw [List.drop_eq_getElem_cons hlt, List.foldl_cons] at h2 h3
  exact ih (i + 1) _ _ (by omega) h2 h3
theorem StripeTells_ev (C D B P : Int) (l : List Int) (m : Int) : Ev (fun k => almshouselaw37_StripeTells.f k C D B P l m) true := by
 unfold almshouselaw37_StripeTells.f
 refine ev_bind fixed_ok ?_
 simp only [if_true]
 by_cases h40 : (l.length : Int) > 40
 ·simp only [if_pos h40]
  refine ev_succ (fun k => by rw [almshouselaw37_StripeTells.j0]) ?_
  simp only [if_true]
  exact ev_const _
 ·simp only [if_neg h40]
  by_cases h70 : m > 70
  ·simp only [h70, decide_true]
   refine ev_succ (fun k => by rw [almshouselaw37_StripeTells.j0]) ?_
   simp only [if_true]
   exact ev_const _
  ·simp only [h70, decide_false]
   refine ev_succ (fun k => by rw [almshouselaw37_StripeTells.j0]) ?_
   simp only [Bool.false_eq_true, if_false]
   by_cases hG : Gd C D B P
   ·have g := hG
    unfold Gd at g
    obtain ⟨q, hq1, hq2, hq3⟩ : ∃ q : List Int × Bool, Ev (fun k => stripe_Pick.f k C D B P l m) q ∧ Ev (fun k => almshouseref37_Pick.f k C D B P l m) q ∧ q.1.length ≤ 100000 := by
     by_cases hm : m < 0
     ·exact ⟨_, pick_neg hG l (by omega) m hm, rpick_neg hG l m hm, by simp⟩
     ·obtain ⟨n, rfl⟩ := Int.eq_ofNat_of_zero_le (show 0 ≤ m by omega)
      refine ⟨_, pick_ok hG l (by omega) n (by omega), rpick_ok hG l (by omega) n (by omega), ?_⟩
      have : ∀ (L : List (List Int)) (d : Nat) (tk out : List Int), d + out.length ≤ 100000 → (pkr (pk L d tk out)).1.length ≤ 100000 := by
       intro L d
       induction d with
       | zero => intro tk out h; simp only [pk, pkr, List.length_mergeSort]; omega
       | succ d ih =>
        intro tk out h
        rw [pk]
        split
        ·simp [pkr]
        ·exact ih _ _ (by simp; omega)
      exact this _ _ _ _ (by simp; omega)
    refine ev_bind hq1 ?_
    refine ev_bind (check_ok' hG) ?_
    simp only [if_true]
    refine ev_bind hq2 ?_
    refine ev_bind (rloads_ok hG l (by omega)) ?_
    have hp := Ld_pos (show 0 < C by omega) (C * D * B) l
    have hs := spread_bd (N := C * D * B) (show 0 < C by omega) l (by omega)
    have hlen := Ld_len C (C * D * B) l
    have hrd : rd (Ld C (C * D * B) l) 0 = (Ld C (C * D * B) l).headD 0 := by
     cases h : Ld C (C * D * B) l with
     | nil => rfl
     | cons a t => rfl
    simp only [if_pos (show 0 < ((Ld C (C * D * B) l).length : Int) by omega), hrd]
    refine tells_l0 l q.1 q.2 q.1 q.2 C D B P (Ld C (C * D * B) l) (Ld C (C * D * B) l) true (by rw [hlen]; omega) ?_ (Ld C (C * D * B) l).length 0 _ _ (by omega) rfl rfl
    rintro lo hi rfl rfl
    simp only [beq_self_eq_true, if_true]
    refine ev_bind (same_ok q.1 q.1 hq3) ?_
    simp only [decide_true, if_true]
    refine ev_bind (order_ok hG l (by omega)) ?_
    refine ev_bind (rorder_ok hG l (by omega)) ?_
    refine ev_bind (same_ok _ _ ?_) ?_
    ·have h1 : ∀ (L : List (List Int)) (d i : Nat), ((List.range' i d).flatMap (rnd L)).length ≤ d * L.length := by
      intro L d
      induction d with
      | zero => intro i; simp
      | succ d ih =>
       intro i
       rw [List.range'_succ, List.flatMap_cons, List.length_append]
       have h1 := rnd_len L i
       have h2 := ih (i + 1)
       rw [Nat.succ_mul]; omega
     have h2 := h1 (Rs C (C * D * B) l) 64 0
     rw [Rs_len] at h2
     unfold Od
     omega
    simp only [decide_true, if_true]
    refine ev_bind (loads_ok hG l (by omega)) ?_
    refine ev_bind (same_ok _ _ (by rw [hlen]; omega)) ?_
    simp only [decide_true, if_true]
    refine ev_bind (even_ok hG l (by omega)) ?_
    unfold spread at hs ⊢
    rw [w64 (by omega) (by omega), beq_self_eq_true]
    exact ev_const _
   ·obtain ⟨e, he0, he⟩ := check_ref C D B P
    refine ev_bind (no_pick hG l m) ?_
    refine ev_bind he0 ?_
    simp only [if_neg (show ¬ e = 0 from fun h => hG (he.1 h)), Bool.false_eq_true, if_false]
    refine ev_bind (no_order hG l) ?_
    refine ev_bind (no_loads hG l) ?_
    refine ev_pos (by simp only [List.length_nil]; rw [w64 (x := ((0 : Nat) : Int) + ((0 : Nat) : Int)) (by decide) (by decide), w64 (by decide) (by decide)]; rfl) ?_
    refine ev_bind (no_even hG l) ?_
    exact ev_const _
end Go.Proofs.Yteedjokkfiglhaa.St
