-- Cut by a program of this session (wip/pr/pack.py) to what one claim needs.
import Derived.Test.YtpcpllabegfdjaaBQuotaB
import Derived.Test.YtpcpllabegfdjaaBXL
namespace Go.Proofs.Ytpcpllabegfdjaa.Qt
open Go.RowKit Go.Proofs.YtpcpllabegfdjaaW.PrintWords Go.Proofs.YtpcpllabegfdjaaW.PrintLast Go.Proofs.YtpcpllabegfdjaaW.PrintMore Go.Proofs.Ytpcpllabegfdjaa.P Go.Proofs.Ytpcpllabegfdjaa.X Go.Proofs.Ytpcpllabegfdjaa.Gen
set_option linter.unusedVariables false
set_option linter.unusedSimpArgs false
set_option linter.unusedSectionVars false
theorem cst_out (p : Int) (hp : ¬ (2 ≤ p ∧ p ≤ 16)) (x : W) : cst p x = 0 := by
 have h := cst_eq p x
 have e1 : rule_paged.f p = some false := by
  unfold rule_paged.f
  by_cases h2 : p ≥ 2
  ·rw [if_pos h2, decide_eq_false (by omega)]
  ·rw [if_neg h2]
 unfold rule_Total.f at h
 obtain ⟨c, hc⟩ : ∃ c, rule_Check.f x.f0 x.f1 = some c := by
  unfold rule_Check.f
  repeat' (first | exact ⟨_, rfl⟩ | split)
 rw [hc] at h
 simp only [Option.bind_some, e1, Bool.false_eq_true, if_false] at h
 split at h <;> exact (Option.some.inj h).symm
theorem rcost_out (p : Int) (hp : ¬ (2 ≤ p ∧ p ≤ 16)) (a b : Int) : Ev (fun k => almshouseref41_Cost.f k a b p) (cst p ⟨a, b⟩) := by
 have hright : almshouseref09_Right.f a b p = some false := by
  unfold almshouseref09_Right.f
  repeat' (first | rfl | split)
  rw [decide_eq_false (by omega)]
 rw [cst_out p hp]
 unfold almshouseref41_Cost.f almshouseref09_Total.f
 simp only [hright, Option.bind_some, Bool.false_eq_true, if_false]
 exact ev_const _
theorem rcost_all (p a b : Int) : Ev (fun k => almshouseref41_Cost.f k a b p) (cst p ⟨a, b⟩) := by
 by_cases hp : 2 ≤ p ∧ p ≤ 16
 ·exact rcost_f p hp a b
 ·exact rcost_out p hp a b
theorem cst_bd_all (p : Int) (x : W) : 0 ≤ cst p x ∧ cst p x ≤ 42 := by
 by_cases hp : 2 ≤ p ∧ p ≤ 16
 ·exact cst_bd p hp x
 ·rw [cst_out p hp]; omega
theorem ci_bd_all (l : List W) (p i : Int) : 0 ≤ ci l p i ∧ ci l p i ≤ 42 := cst_bd_all p _
theorem sum_all (l : List W) (p : Int) (S : List Int) (hS : S.length ≤ 100) (hin : ∀ i, i ∈ S → 0 ≤ i ∧ i < l.length) :
  Ev (fun k => almshouseref41_Sum.f k (l.map fun x => (⟨x.f0, x.f1⟩ : V)) S p) (su (ci l p) S) := by
 unfold almshouseref41_Sum.f
 have key : ∀ (d j : Nat) (acc : Int), j + d = S.length → 0 ≤ acc → acc ≤ 42 * (j : Int) → Ev (fun k => almshouseref41_Sum.l0 k (l.map fun x => (⟨x.f0, x.f1⟩ : V)) p acc S (S.length : Int) (j : Int)) (acc + su (ci l p) (S.drop j)) := by
  intro d
  induction d with
  | zero =>
   intro j acc hj h0 h1
   obtain rfl : j = S.length := by omega
   refine ev_succ (fun k => by rw [almshouseref41_Sum.l0]) ?_
   simp only [Int.lt_irrefl, if_false, List.drop_length, su, Int.add_zero]
   exact ev_const _
  | succ d ih =>
   intro j acc hj h0 h1
   have hlt : j < S.length := by omega
   have hi := hin S[j] (List.getElem_mem _)
   have hb := ci_bd_all l p S[j]
   refine ev_succ (fun k => by rw [almshouseref41_Sum.l0]) ?_
   simp only [if_pos (show (j : Int) < (S.length : Int) by omega), if_pos (show (0 : Int) ≤ (j : Int) by omega), rd_nat hlt, if_pos hi.1, if_pos (show S[j] < ((l.map fun x => (⟨x.f0, x.f1⟩ : V)).length : Int) by simp; exact hi.2), nx (j := j) (by omega)]
   refine ev_bind (rcost_all p _ _) ?_
   have e : (⟨(rd_T42 (l.map fun x => (⟨x.f0, x.f1⟩ : V)) S[j]).f0, (rd_T42 (l.map fun x => (⟨x.f0, x.f1⟩ : V)) S[j]).f1⟩ : W) = rd_T34 l S[j] := by
    unfold rd_T42 rd_T34
    have h1 : S[j].toNat < l.length := by omega
    rw [List.getD_eq_getElem?_getD, List.getD_eq_getElem?_getD, List.getElem?_map, List.getElem?_eq_getElem h1]; rfl
   rw [e]
   have e2 : cst p (rd_T34 l S[j]) = ci l p S[j] := rfl
   rw [e2, w64 (x := acc + ci l p S[j]) (by omega) (by omega), List.drop_eq_getElem_cons hlt, su]
   have := ih (j + 1) (acc + ci l p S[j]) (by omega) (by omega) (by omega)
   rw [Int.add_assoc] at this
   exact this
 have := key S.length 0 0 (by omega) (Int.le_refl _) (by omega)
 rw [List.drop_zero, Int.zero_add] at this
 exact this
def allL (c : Int → Int) (room : Int) : Nat → Nat → List (List Int) → List (List Int)
 | 0, _, out => out
 | d + 1, i, out => if c i = 0 then allL c room d (i + 1) out else allL c room d (i + 1) (out ++ (out.filter fun x => decide (su c x + c i ≤ room)).map (· ++ [(i : Int)]))
theorem room_ok (b : Int) : almshouseref41_room.f b = some (min b 64) := by
 unfold almshouseref41_room.f
 split
 ·rw [show min b 64 = 64 by omega]
 ·rw [show min b 64 = b by omega]
section
variable (l : List W) (p b : Int) (hl : l.length ≤ 12)
abbrev wl (l : List W) : List V := l.map fun x => (⟨x.f0, x.f1⟩ : V)
include hl
theorem all_l1 (i : Nat) (hi : i < l.length) (xr : List (List Int)) (hn : xr.length ≤ 4096) (hx : ∀ x, x ∈ xr → x.length ≤ 12 ∧ ∀ j, j ∈ x → 0 ≤ j ∧ j < l.length) (r : List (List Int)) :
  ∀ (d j : Nat) (out : List (List Int)), j + d = xr.length → out.length + d ≤ 8192 →
  Ev (fun k => almshouseref41_all.l0 k (wl l) b p (out ++ ((xr.drop j).filter fun x => decide (su (ci l p) x + ci l p i ≤ min b 64)).map (· ++ [(i : Int)])) (wl l) ((wl l).length : Int) (wrap64 ((i : Int) + 1))) r →
  Ev (fun k => almshouseref41_all.l1 k (wl l) b p out (i : Int) (ci l p i) (wl l) ((wl l).length : Int) (i : Int) xr (xr.length : Int) (j : Int)) r := by
 intro d
 induction d with
 | zero =>
  intro j out hj ho H
  obtain rfl : j = xr.length := by omega
  refine ev_succ (fun k => by rw [almshouseref41_all.l1]) ?_
  simp only [Int.lt_irrefl, if_false]
  simpa using H
 | succ d ih =>
  intro j out hj ho H
  have hlt : j < xr.length := by omega
  have hm := hx xr[j] (List.getElem_mem _)
  have e : rd_L2 xr (j : Int) = xr[j] := by unfold rd_L2; rw [List.getD_eq_getElem?_getD, Int.toNat_natCast, List.getElem?_eq_getElem hlt]; rfl
  have hb := ci_bd_all l p (i : Int)
  have hsu : 0 ≤ su (ci l p) xr[j] ∧ su (ci l p) xr[j] ≤ 42 * (xr[j].length : Int) := by
   have : ∀ t : List Int, 0 ≤ su (ci l p) t ∧ su (ci l p) t ≤ 42 * (t.length : Int) := by
    intro t
    induction t with
    | nil => simp [su]
    | cons a t ih => have := ci_bd_all l p a; simp only [su, List.length_cons]; omega
   exact this _
  rw [List.drop_eq_getElem_cons hlt, List.filter_cons] at H
  refine ev_succ (fun k => by rw [almshouseref41_all.l1]) ?_
  simp only [if_pos (show (j : Int) < (xr.length : Int) by omega), if_pos (show (0 : Int) ≤ (j : Int) by omega), e, nx (j := j) (by omega)]
  refine ev_bind (sum_all l p xr[j] (by omega) hm.2) ?_
  rw [room_ok]
  simp only [Option.bind_some]
  rw [w64 (x := su (ci l p) xr[j] + ci l p i) (by omega) (by omega)]
  by_cases hle : su (ci l p) xr[j] + ci l p i ≤ min b 64
  ·rw [if_pos (by simpa using hle)] at H
   refine ev_pos hle ?_
   simp only [List.nil_append, if_pos (show ([] : List Int).length + xr[j].length < 17592186044416 by simp; omega), if_pos (show xr[j].length < 17592186044416 by omega), if_pos (show out.length < 5864062014805 by omega)]
   refine ih (j + 1) _ (by omega) (by simp; omega) ?_
   simpa using H
  ·rw [if_neg (by simpa using hle)] at H
   refine ev_neg hle ?_
   exact ih (j + 1) _ (by omega) (by omega) H
end
theorem all_l0 (l : List W) (p b : Int) (hl : l.length ≤ 12) : ∀ (d i : Nat) (out : List (List Int)), i + d = l.length → out.length ≤ 2 ^ i → (∀ x, x ∈ out → x.length ≤ i ∧ ∀ j, j ∈ x → 0 ≤ j ∧ j < (i : Int)) →
  Ev (fun k => almshouseref41_all.l0 k (wl l) b p out (wl l) ((wl l).length : Int) (i : Int)) (allL (ci l p) (min b 64) d i out) := by
 intro d
 induction d with
 | zero =>
  intro i out hi ho hx
  refine ev_succ (fun k => by rw [almshouseref41_all.l0]) ?_
  simp only [if_neg (show ¬ (i : Int) < ((wl l).length : Int) by simp; omega), allL]
  exact ev_const _
 | succ d ih =>
  intro i out hi ho hx
  have hlt : i < l.length := by omega
  have hpow : 2 ^ i ≤ 2 ^ 11 := Nat.pow_le_pow_right (by decide) (by omega)
  refine ev_succ (fun k => by rw [almshouseref41_all.l0]) ?_
  simp only [if_pos (show (i : Int) < ((wl l).length : Int) by simp; omega), if_pos (show (0 : Int) ≤ (i : Int) by omega)]
  have e : (⟨(rd_T42 (wl l) (i : Int)).f0, (rd_T42 (wl l) (i : Int)).f1⟩ : W) = rd_T34 l (i : Int) := by
   unfold rd_T42 rd_T34
   rw [List.getD_eq_getElem?_getD, List.getD_eq_getElem?_getD, List.getElem?_map, Int.toNat_natCast, List.getElem?_eq_getElem hlt]; rfl
  refine ev_bind (rcost_all p _ _) ?_
  rw [e]
  show Ev (fun k => if ci l p (i : Int) = 0 then _ else _) _
  rw [allL]
  by_cases e0 : ci l p (i : Int) = 0
  ·rw [if_pos e0]
   refine ev_pos e0 ?_
   rw [nx (j := i) (by omega)]
   exact ih (i + 1) out (by omega) (by rw [Nat.pow_succ]; omega) (fun x h => ⟨by have := (hx x h).1; omega, fun j hj => by have := (hx x h).2 j hj; omega⟩)
  ·rw [if_neg e0]
   refine ev_neg e0 ?_
   have hf := List.length_filter_le (fun x => decide (su (ci l p) x + ci l p (i : Int) ≤ min b 64)) out
   refine all_l1 l p b hl i hlt out (by omega) (fun x h => ⟨by have := (hx x h).1; omega, fun j hj => by have := (hx x h).2 j hj; omega⟩) _ out.length 0 out (by omega) (by omega) ?_
   rw [List.drop_zero, nx (j := i) (by omega)]
   refine ih (i + 1) _ (by omega) (by rw [List.length_append, List.length_map, Nat.pow_succ]; omega) (fun x h => ?_)
   rcases List.mem_append.1 h with h | h
   ·exact ⟨by have := (hx x h).1; omega, fun j hj => by have := (hx x h).2 j hj; omega⟩
   ·obtain ⟨y, hy, rfl⟩ := List.mem_map.1 h
    have hy' := (List.mem_filter.1 hy).1
    refine ⟨by rw [List.length_append, List.length_singleton]; have := (hx y hy').1; omega, fun j hj => ?_⟩
    rcases List.mem_append.1 hj with hj | hj
    ·have := (hx y hy').2 j hj; omega
    ·have : j = (i : Int) := by simpa using hj
     omega
theorem all_ok (l : List W) (p b : Int) (hl : l.length ≤ 12) : Ev (fun k => almshouseref41_all.f k (wl l) b p) (allL (ci l p) (min b 64) l.length 0 [[]]) := by
 unfold almshouseref41_all.f
 have := all_l0 l p b hl l.length 0 [[]] (by omega) (by simp) (fun x h => by
  have : x = [] := by simpa using h
  subst this
  exact ⟨Nat.le_refl _, fun j hj => by cases hj⟩)
 exact this
def aheadB : List Int → List Int → Bool
 | a :: s, b :: t => if a = b then aheadB s t else decide (a < b)
 | _, _ => false
theorem ahead_ok (x y : List Int) (h : x.length = y.length) (hx : x.length ≤ 1000) : Ev (fun k => almshouseref41_ahead.f k x y) (aheadB x y) := by
 unfold almshouseref41_ahead.f
 have key : ∀ (d i : Nat), i + d = x.length → Ev (fun k => almshouseref41_ahead.l0 k x y (x.length : Int) (i : Int)) (aheadB (x.drop i) (y.drop i)) := by
  intro d
  induction d with
  | zero =>
   intro i hi
   obtain rfl : i = x.length := by omega
   refine ev_succ (fun k => by rw [almshouseref41_ahead.l0]) ?_
   simp only [Int.lt_irrefl, if_false, List.drop_length, aheadB]
   exact ev_const _
  | succ d ih =>
   intro i hi
   have h1 : i < x.length := by omega
   have h2 : i < y.length := by omega
   refine ev_succ (fun k => by rw [almshouseref41_ahead.l0]) ?_
   simp only [if_pos (show (i : Int) < (x.length : Int) by omega), if_pos (show (0 : Int) ≤ (i : Int) by omega), if_pos (show (i : Int) < (y.length : Int) by omega), rd_nat h1, rd_nat h2, nx (j := i) (by omega)]
   rw [List.drop_eq_getElem_cons h1, List.drop_eq_getElem_cons h2, aheadB]
   by_cases e : x[i] = y[i]
   ·rw [if_pos e]
    refine ev_pos e ?_
    exact ih (i + 1) (by omega)
   ·rw [if_neg e]
    refine ev_neg e ?_
    exact ev_const _
 exact key x.length 0 (by omega)
def beats (c : Int → Int) (x y : List Int) : Bool := decide (su c x > su c y) || (decide (su c x = su c y) && (decide (x.length < y.length) || (decide (x.length = y.length) && aheadB x y)))
def foldB (c : Int → Int) : List (List Int) → List Int → List Int
 | [], best => best
 | x :: t, best => foldB c t (if beats c x best then x else best)
theorem fold_ok (l : List W) (p : Int) (xs : List (List Int)) (hn : xs.length ≤ 100000) (hx : ∀ x, x ∈ xs → x.length ≤ 100 ∧ ∀ j, j ∈ x → 0 ≤ j ∧ j < l.length) :
  ∀ (d i : Nat) (best : List Int), i + d = xs.length → (best.length ≤ 100 ∧ ∀ j, j ∈ best → 0 ≤ j ∧ j < l.length) →
  Ev (fun k => almshouseref41_Fullest.l0 k (wl l) p best xs (xs.length : Int) (i : Int)) (foldB (ci l p) (xs.drop i) best) := by
 intro d
 induction d with
 | zero =>
  intro i best hi hb
  obtain rfl : i = xs.length := by omega
  refine ev_succ (fun k => by rw [almshouseref41_Fullest.l0]) ?_
  simp only [Int.lt_irrefl, if_false, List.drop_length, foldB]
  exact ev_const _
 | succ d ih =>
  intro i best hi hb
  have hlt : i < xs.length := by omega
  have hm := hx xs[i] (List.getElem_mem _)
  have e : rd_L2 xs (i : Int) = xs[i] := by unfold rd_L2; rw [List.getD_eq_getElem?_getD, Int.toNat_natCast, List.getElem?_eq_getElem hlt]; rfl
  have H1 := ih (i + 1) xs[i] (by omega) hm
  have H0 := ih (i + 1) best (by omega) hb
  rw [List.drop_eq_getElem_cons hlt, foldB]
  refine ev_succ (fun k => by rw [almshouseref41_Fullest.l0]) ?_
  simp only [if_pos (show (i : Int) < (xs.length : Int) by omega), if_pos (show (0 : Int) ≤ (i : Int) by omega), e, nx (j := i) (by omega)]
  refine ev_bind (sum_all l p xs[i] (by omega) hm.2) ?_
  refine ev_bind (sum_all l p best (by omega) hb.2) ?_
  unfold beats
  by_cases h1 : su (ci l p) xs[i] > su (ci l p) best
  ·rw [decide_eq_true h1]
   refine ev_pos h1 ?_
   simpa using H1
  ·rw [decide_eq_false h1]
   refine ev_neg h1 ?_
   by_cases h2 : su (ci l p) xs[i] = su (ci l p) best
   ·rw [decide_eq_true h2]
    refine ev_pos h2 ?_
    by_cases h3 : xs[i].length < best.length
    ·rw [decide_eq_true h3]
     refine ev_pos (by omega) ?_
     simpa using H1
    ·rw [decide_eq_false h3]
     refine ev_neg (by omega) ?_
     by_cases h4 : xs[i].length = best.length
     ·rw [decide_eq_true h4]
      refine ev_pos (by omega) ?_
      refine ev_bind (ahead_ok xs[i] best h4 (by omega)) ?_
      cases aheadB xs[i] best with
      | true => simpa using H1
      | false => simpa using H0
     ·rw [decide_eq_false h4]
      refine ev_neg (by omega) ?_
      simpa using H0
   ·rw [decide_eq_false h2]
    refine ev_neg h2 ?_
    simpa using H0
theorem allL_inv (c : Int → Int) (room : Int) : ∀ (d i : Nat) (out : List (List Int)), (∀ x, x ∈ out → x.length ≤ i ∧ ∀ j, j ∈ x → 0 ≤ j ∧ j < (i : Int)) → out.length ≤ 2 ^ i →
  (∀ x, x ∈ allL c room d i out → x.length ≤ i + d ∧ ∀ j, j ∈ x → 0 ≤ j ∧ j < ((i + d : Nat) : Int)) ∧ (allL c room d i out).length ≤ 2 ^ (i + d) := by
 intro d
 induction d with
 | zero => intro i out h1 h2; exact ⟨h1, h2⟩
 | succ d ih =>
  intro i out h1 h2
  rw [allL]
  have hw : ∀ x, x ∈ out → x.length ≤ i + 1 ∧ ∀ j, j ∈ x → 0 ≤ j ∧ j < ((i + 1 : Nat) : Int) := fun x h => ⟨by have := (h1 x h).1; omega, fun j hj => by have := (h1 x h).2 j hj; omega⟩
  have e : i + 1 + d = i + (d + 1) := by omega
  by_cases e0 : c i = 0
  ·rw [if_pos e0]
   have := ih (i + 1) out hw (by rw [Nat.pow_succ]; omega)
   rw [e] at this; exact this
  ·rw [if_neg e0]
   have hf := List.length_filter_le (fun x => decide (su c x + c i ≤ room)) out
   have := ih (i + 1) (out ++ (out.filter fun x => decide (su c x + c i ≤ room)).map (· ++ [(i : Int)])) (fun x h => by
    rcases List.mem_append.1 h with h | h
    ·exact hw x h
    ·obtain ⟨y, hy, rfl⟩ := List.mem_map.1 h
     have hy' := (List.mem_filter.1 hy).1
     refine ⟨by rw [List.length_append, List.length_singleton]; have := (h1 y hy').1; omega, fun j hj => ?_⟩
     rcases List.mem_append.1 hj with hj | hj
     ·have := (h1 y hy').2 j hj; omega
     ·have : j = (i : Int) := by simpa using hj
      omega) (by rw [List.length_append, List.length_map, Nat.pow_succ]; omega)
   rw [e] at this; exact this
theorem rfull_ok (l : List W) (p b : Int) : Ev (fun k => almshouseref41_Fullest.f k (wl l) b p) (if l.length > 12 then [] else foldB (ci l p) (allL (ci l p) (min b 64) l.length 0 [[]]) []) := by
 unfold almshouseref41_Fullest.f
 by_cases h : l.length > 12
 ·rw [if_pos h]
  simp only [if_pos (show ((wl l).length : Int) > 12 by simp; omega)]
  exact ev_const _
 ·rw [if_neg h]
  simp only [if_neg (show ¬ ((wl l).length : Int) > 12 by simp; omega)]
  refine ev_bind (all_ok l p b (by omega)) ?_
  have inv := allL_inv (ci l p) (min b 64) l.length 0 [[]] (fun x h => by
   have : x = [] := by simpa using h
   subst this
   exact ⟨Nat.le_refl _, fun j hj => by cases hj⟩) (by simp)
  rw [Nat.zero_add] at inv
  have hp : 2 ^ l.length ≤ 2 ^ 12 := Nat.pow_le_pow_right (by decide) (by omega)
  have := fold_ok l p _ (by omega) (fun x hx => ⟨by have := (inv.1 x hx).1; omega, (inv.1 x hx).2⟩) (allL (ci l p) (min b 64) l.length 0 [[]]).length 0 [] (by omega) ⟨by simp, fun j hj => by cases hj⟩
  rw [List.drop_zero] at this
  exact this
end Go.Proofs.Ytpcpllabegfdjaa.Qt
