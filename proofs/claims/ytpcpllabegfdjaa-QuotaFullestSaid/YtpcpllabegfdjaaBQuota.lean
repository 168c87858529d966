-- Cut by a program of this session (wip/pr/pack.py) to what one claim needs.
import Derived.Test.YtpcpllabegfdjaaBPx13
import Derived.Test.YtpcpllabegfdjaaBPx20
import Derived.Test.YtpcpllabegfdjaaBPx23
import Derived.Test.YtpcpllabegfdjaaBXM
import Derived.Test.YtpcpllabegfdjaaBGen
namespace Go.Proofs.Ytpcpllabegfdjaa.Qt
open Go.RowKit Go.Proofs.YtpcpllabegfdjaaW.PrintWords Go.Proofs.YtpcpllabegfdjaaW.PrintLast Go.Proofs.YtpcpllabegfdjaaW.PrintMore Go.Proofs.Ytpcpllabegfdjaa.P Go.Proofs.Ytpcpllabegfdjaa.X Go.Proofs.Ytpcpllabegfdjaa.Gen
set_option linter.unusedVariables false
set_option linter.unusedSimpArgs false
abbrev W := S34
theorem cst_val (p : Int) (hp : 2 ≤ p ∧ p ≤ 16) (x : W) : cst p x = if 1 ≤ x.f0 ∧ x.f0 ≤ 64 ∧ 0 ≤ x.f1 ∧ x.f1 ≤ 8 then x.f0 / p + 2 + x.f1 else 0 := by
 have h := cst_eq p x
 have e1 : rule_paged.f p = some true := by unfold rule_paged.f; rw [if_pos (by omega)]; simp; omega
 by_cases hv : 1 ≤ x.f0 ∧ x.f0 ≤ 64 ∧ 0 ≤ x.f1 ∧ x.f1 ≤ 8
 ·rw [if_pos hv]
  have e0 : rule_Check.f x.f0 x.f1 = some 0 := by unfold rule_Check.f; rw [if_neg (by omega), if_neg (by omega), if_neg (by omega), if_neg (by omega)]
  have e2 : rule_Check.f x.f0 0 = some 0 := by unfold rule_Check.f; rw [if_neg (by omega), if_neg (by omega), if_neg (by omega), if_neg (by omega)]
  have hd : Int.tdiv x.f0 p = x.f0 / p := Int.tdiv_eq_ediv_of_nonneg (by omega)
  have hd0 : 0 ≤ x.f0 / p := Int.ediv_nonneg (by omega) (by omega)
  have hd1 : x.f0 / p ≤ x.f0 := Int.ediv_le_self _ (by omega)
  unfold rule_Total.f at h
  rw [e0] at h
  simp only [Option.bind_some, if_true] at h
  rw [e1] at h
  simp only [Option.bind_some, if_true] at h
  unfold rule_Data.f at h
  rw [e2] at h
  simp only [Option.bind_some, if_true] at h
  rw [e1] at h
  simp only [Option.bind_some, if_true, if_neg (show ¬ p = 0 by omega), hd] at h
  rw [w64 (x := x.f0 / p) (by omega) (by omega), w64 (x := x.f0 / p + 2) (by omega) (by omega), w64 (by omega) (by omega)] at h
  exact (Option.some.inj h).symm
 ·rw [if_neg hv]
  have e0 : rule_Check.f x.f0 x.f1 = some 5 := by
   unfold rule_Check.f
   split
   ·rfl
   ·split
    ·rfl
    ·split
     ·rfl
     ·split
      ·rfl
      ·omega
  unfold rule_Total.f at h
  rw [e0] at h
  exact (Option.some.inj h).symm
theorem cst_bd (p : Int) (hp : 2 ≤ p ∧ p ≤ 16) (x : W) : 0 ≤ cst p x ∧ cst p x ≤ 42 := by
 rw [cst_val p hp]
 split
 ·rename_i h
  have h0 : 0 ≤ x.f0 / p := Int.ediv_nonneg (by omega) (by omega)
  have h1 : x.f0 / p ≤ 32 := by
   have : x.f0 / p < 33 := Int.ediv_lt_of_lt_mul (by omega) (by omega)
   omega
  omega
 ·omega
theorem cost_f (p : Int) (x : W) : quota_Cost.f x.f0 x.f1 p = some (cst p x) := by unfold quota_Cost.f; rw [cst_eq]; rfl
theorem rcost_f (p : Int) (hp : 2 ≤ p ∧ p ≤ 16) (a b : Int) : Ev (fun k => almshouseref41_Cost.f k a b p) (cst p ⟨a, b⟩) := by
 have hright : ∀ s : Int, almshouseref09_Right.f a s p = some (decide (1 ≤ a ∧ a ≤ 64 ∧ 0 ≤ s ∧ s ≤ 8)) := by
  intro s
  unfold almshouseref09_Right.f
  by_cases h1 : a ≥ 1
  ·rw [if_pos h1]
   by_cases h2 : a ≤ 64
   ·rw [if_pos h2]
    by_cases h3 : s ≥ 0
    ·rw [if_pos h3]
     by_cases h4 : s ≤ 8
     ·rw [if_pos h4, if_pos (by omega), decide_eq_true (by omega), decide_eq_true (by omega)]
     ·rw [if_neg h4, decide_eq_false (by omega)]
    ·rw [if_neg h3, decide_eq_false (by omega)]
   ·rw [if_neg h2, decide_eq_false (by omega)]
  ·rw [if_neg h1, decide_eq_false (by omega)]
 unfold almshouseref41_Cost.f almshouseref09_Total.f
 rw [cst_val p hp]
 by_cases hv : 1 ≤ a ∧ a ≤ 64 ∧ 0 ≤ b ∧ b ≤ 8
 ·rw [if_pos hv]
  simp only [hright b, decide_eq_true hv, Option.bind_some, if_true]
  have hd0 : 0 ≤ a / p := Int.ediv_nonneg (by omega) (by omega)
  have hd1 : a / p ≤ a := Int.ediv_le_self _ (by omega)
  have hmul : p * (a / p) ≤ a := Int.mul_ediv_self_le (by omega)
  have hlt : a < p * (a / p + 1) := by
   have := Int.lt_mul_ediv_self_add (x := a) (k := p) (by omega)
   rw [Int.mul_add]; omega
  have hloop : ∀ (d : Nat) (i : Int), 0 ≤ i → i + d = a / p → Ev (fun k => almshouseref09_Data.l0 k a p i) (a / p + 2) := by
   intro d
   induction d with
   | zero =>
    intro i h0 hi
    obtain rfl : i = a / p := by omega
    refine ev_succ (fun k => by rw [almshouseref09_Data.l0]) ?_
    have hm : (a / p + 1) * p ≤ 65 * 16 := Int.mul_le_mul (by omega) (by omega) (by omega) (by omega)
    have hm0 : 0 ≤ (a / p + 1) * p := Int.mul_nonneg (by omega) (by omega)
    rw [w64 (x := a / p + 1) (by omega) (by omega), w64 (x := (a / p + 1) * p) (by omega) (by omega), w64 (x := a / p + 2) (by omega) (by omega)]
    rw [Int.mul_comm] at hlt
    simp only [if_neg (show ¬ (a / p + 1) * p ≤ a by omega)]
    exact ev_const _
   | succ d ih =>
    intro i h0 hi
    refine ev_succ (fun k => by rw [almshouseref09_Data.l0]) ?_
    have hle : (i + 1) * p ≤ p * (a / p) := by rw [Int.mul_comm]; exact Int.mul_le_mul_of_nonneg_left (by omega) (by omega)
    have hm0 : 0 ≤ (i + 1) * p := Int.mul_nonneg (by omega) (by omega)
    rw [w64 (x := i + 1) (by omega) (by omega), w64 (x := (i + 1) * p) (by omega) (by omega)]
    simp only [if_pos (show (i + 1) * p ≤ a by omega)]
    exact ih (i + 1) (by omega) (by omega)
  have hdata : Ev (fun k => almshouseref09_Data.f k a p) (a / p + 2) := by
   unfold almshouseref09_Data.f
   simp only [hright 0, decide_eq_true (show 1 ≤ a ∧ a ≤ 64 ∧ (0 : Int) ≤ 0 ∧ (0 : Int) ≤ 8 by omega), Option.bind_some, if_true]
   exact hloop (a / p).toNat 0 (by omega) (by omega)
  refine ev_bind (a := a / p + 2 + b) ?_ (ev_const _)
  refine ev_bind hdata ?_
  rw [w64 (by omega) (by omega)]
  exact ev_const _
 ·rw [if_neg hv]
  simp only [hright b, decide_eq_false hv, Option.bind_some, Bool.false_eq_true, if_false]
  exact ev_const _
def ci (l : List W) (p : Int) (i : Int) : Int := cst p (rd_T34 l i)
theorem ci_bd (l : List W) (p : Int) (hp : 2 ≤ p ∧ p ≤ 16) (i : Int) : 0 ≤ ci l p i ∧ ci l p i ≤ 42 := cst_bd p hp _
def su (c : Int → Int) : List Int → Int
 | [] => 0
 | i :: t => c i + su c t
theorem su_append (c : Int → Int) (a b : List Int) : su c (a ++ b) = su c a + su c b := by
 induction a with
 | nil => simp [su]
 | cons x t ih => simp only [List.cons_append, su, ih]; omega
def gr (c : Int → Int) : List Int → Int → List Int
 | [], _ => []
 | i :: t, left => if c i > 0 ∧ c i ≤ left then i :: gr c t (left - c i) else gr c t left
theorem grant_l0 (l : List W) (p : Int) (hp : 2 ≤ p ∧ p ≤ 16) (o : List Int) (ho : o.length ≤ 1000) (hin : ∀ i, i ∈ o → 0 ≤ i ∧ i < l.length) : ∀ (d j : Nat) (left : Int) (acc : List Int), j + d = o.length → acc.length ≤ j → -100 ≤ left → left ≤ 64 →
  Ev (fun k => quota_grant.l0 k l p left acc o (o.length : Int) (j : Int)) ((acc ++ gr (ci l p) (o.drop j) left).mergeSort fun x y => decide (x ≤ y)) := by
 intro d
 induction d with
 | zero =>
  intro j left acc hj ha h0 h1
  obtain rfl : j = o.length := by omega
  refine ev_succ (fun k => by rw [quota_grant.l0]) ?_
  simp only [Int.lt_irrefl, if_false, List.drop_length, gr, List.append_nil]
  refine ev_bind (ev_of (a := acc.mergeSort fun x y => decide (x ≤ y)) (by unfold slices_Sort_int_int.f; rw [if_pos (by omega)])) ?_
  exact ev_const _
 | succ d ih =>
  intro j left acc hj ha h0 h1
  have hlt : j < o.length := by omega
  have hi := hin o[j] (List.getElem_mem _)
  have hb := ci_bd l p hp o[j]
  refine ev_succ (fun k => by rw [quota_grant.l0]) ?_
  simp only [if_pos (show (j : Int) < (o.length : Int) by omega), if_pos (show (0 : Int) ≤ (j : Int) by omega), rd_nat hlt, if_pos hi.1, if_pos hi.2, nx (j := j) (by omega)]
  rw [List.drop_eq_getElem_cons hlt, gr]
  refine ev_bind (ev_of (cost_f p _)) ?_
  show Ev (fun k => if ci l p o[j] > 0 then _ else _) _
  by_cases c1 : ci l p o[j] > 0
  ·refine ev_pos c1 ?_
   show Ev (fun k => if ci l p o[j] ≤ left then _ else _) _
   by_cases c2 : ci l p o[j] ≤ left
   ·refine ev_pos c2 ?_
    rw [if_pos ⟨c1, c2⟩]
    simp only [if_pos (show acc.length < 17592186044416 by omega)]
    have e : wrap64 (left - cst p (rd_T34 l o[j])) = left - ci l p o[j] := w64 (by show _ ≤ left - ci l p o[j]; omega) (by show left - ci l p o[j] ≤ _; omega)
    rw [e]
    have := ih (j + 1) (left - ci l p o[j]) (acc ++ [o[j]]) (by omega) (by simp; omega) (by omega) (by omega)
    simpa only [List.append_assoc, List.singleton_append] using this
   ·refine ev_neg c2 ?_
    rw [if_neg (by omega)]
    exact ih (j + 1) left acc (by omega) (by omega) h0 h1
  ·refine ev_neg c1 ?_
   rw [if_neg (by omega)]
   exact ih (j + 1) left acc (by omega) (by omega) h0 h1
theorem grant_ok (l : List W) (p b : Int) (hp : 2 ≤ p ∧ p ≤ 16) (hb : 0 ≤ b) (o : List Int) (ho : o.length ≤ 1000) (hin : ∀ i, i ∈ o → 0 ≤ i ∧ i < l.length) :
  Ev (fun k => quota_grant.f k l o b p) ((gr (ci l p) o (min b 64)).mergeSort fun x y => decide (x ≤ y)) := by
 unfold quota_grant.f
 rw [mn_min]
 have := grant_l0 l p hp o ho hin o.length 0 (min b 64) [] (by omega) (by simp) (by omega) (by omega)
 simpa using this
def rng (n : Nat) : List Int := (List.range n).map fun i : Nat => (i : Int)
theorem rng_mem (n : Nat) (i : Int) : i ∈ rng n ↔ 0 ≤ i ∧ i < n := by
 unfold rng
 rw [List.mem_map]
 constructor
 ·rintro ⟨k, hk, rfl⟩; rw [List.mem_range] at hk; omega
 ·rintro ⟨h0, h1⟩; exact ⟨i.toNat, by rw [List.mem_range]; omega, by omega⟩
theorem numbers_ev (l : List W) (hl : l.length ≤ 1000) : Ev (fun k => quota_numbers.f k l) (rng l.length) := by
 obtain ⟨k0, h⟩ := numbers_ok l hl
 exact ⟨k0, fun k hk => by
  have : ∀ d, quota_numbers.f (k0 + d) l = some (rng l.length) := by
   intro d
   induction d with
   | zero => exact h
   | succ d ih => exact quota_numbers.mono l (k0 + d) _ ih
  rw [show k = k0 + (k - k0) by omega]; exact this _⟩
theorem first_ok (l : List W) (p b : Int) (hp : 2 ≤ p ∧ p ≤ 16) (hb : 0 ≤ b) (hl : l.length ≤ 12) :
  Ev (fun k => quota_First.f k l b p) ((gr (ci l p) (rng l.length) (min b 64)).mergeSort fun x y => decide (x ≤ y)) := by
 unfold quota_First.f
 refine ev_bind (numbers_ev l (by omega)) ?_
 refine ev_bind (grant_ok l p b hp hb _ (by simp [rng]; omega) (fun i hi => (rng_mem _ i).1 hi)) ?_
 exact ev_const _
theorem ext_all {α : Type} (a : Array α) (n : Nat) (h : a.size = n) : a.extract 0 n = a := by subst h; simp
theorem ord_perm (l : List W) (p : Int) : (ord l p).Perm (rng l.length) := by
 cases h : l.length with
 | zero => rw [ord_zero p h]; exact List.Perm.refl _
 | succ m =>
  rw [ord_succ p m h]
  obtain ⟨h1, h2, _⟩ := ordF_spec l p m h
  have h3 := h2.2.2
  have e1 := ext_all (ordF l p m h) (m + 1) h1
  have e2 := ext_all (Array.ofFn (n := m + 1) (id : Fin (m + 1) → Fin (m + 1))) (m + 1) (by simp)
  rw [e1, e2] at h3
  have h4 := h3.map (fun i : Fin (m + 1) => (i.val : Int))
  have e3 : (Array.ofFn (n := m + 1) id).toList.map (fun i : Fin (m + 1) => (i.val : Int)) = rng (m + 1) := by
   unfold rng
   apply List.ext_getElem
   ·simp
   ·intro i h1 h2
    rw [List.getElem_map, List.getElem_map, List.getElem_range, Array.getElem_toList, Array.getElem_ofFn]; rfl
  rw [e3] at h4
  exact h4
theorem ord_sorted (l : List W) (p : Int) : (ord l p).Pairwise (fun a b => ci l p a ≤ ci l p b) := by
 cases h : l.length with
 | zero => rw [ord_zero p h]; exact List.Pairwise.nil
 | succ m =>
  rw [ord_succ p m h]
  obtain ⟨h1, _, h3⟩ := ordF_spec l p m h
  rw [List.pairwise_iff_getElem]
  intro i j hi hj hij
  have hi' : i < (ordF l p m h).size := by simpa using hi
  have hj' : j < (ordF l p m h).size := by simpa using hj
  have hs := h3 i j (Nat.zero_le _) hij (by omega)
  rw [getElem!_pos _ i hi', getElem!_pos _ j hj'] at hs
  simp only [List.getElem_map, Array.getElem_toList]
  have ea : ∀ x : Fin (m + 1), ci l p (x.val : Int) = cst p (l[x.val]'(by omega)) := by
   intro x
   unfold ci rd_T34
   rw [List.getD_eq_getElem?_getD, Int.toNat_natCast, List.getElem?_eq_getElem (by omega)]; rfl
  rw [ea, ea]
  unfold ltOf cfo cmpI at hs
  rw [decide_eq_false_iff_not] at hs
  split at hs
  ·simp at hs
  ·omega
theorem most_ok (l : List W) (p b : Int) (hp : 2 ≤ p ∧ p ≤ 16) (hb : 0 ≤ b) (hl : l.length ≤ 12) :
  Ev (fun k => quota_Most.f k l b p) ((gr (ci l p) (ord l p) (min b 64)).mergeSort fun x y => decide (x ≤ y)) := by
 unfold quota_Most.f
 simp only [if_pos hl]
 have hperm := ord_perm l p
 exact grant_ok l p b hp hb _ (by rw [hperm.length_eq]; simp [rng]; omega) (fun i hi => (rng_mem _ i).1 (hperm.mem_iff.1 hi))
end Go.Proofs.Ytpcpllabegfdjaa.Qt
