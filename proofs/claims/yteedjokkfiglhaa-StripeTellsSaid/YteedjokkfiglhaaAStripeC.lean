-- Cut by a program of this session (wip/pr/pack.py) to what one claim needs.
import Derived.Test.YteedjokkfiglhaaAStripeB
namespace Go.Proofs.Yteedjokkfiglhaa.St
open Go.RowKit Go.Proofs.YteedjokkfiglhaaW.PrintWords Go.Proofs.YteedjokkfiglhaaW.PrintLast Go.Proofs.YteedjokkfiglhaaW.PrintMore Go.Proofs.Yteedjokkfiglhaa.P Go.Proofs.Yteedjokkfiglhaa.X Go.Proofs.Yteedjokkfiglhaa.Gen
set_option linter.unusedVariables false
theorem swap_perm {x : List Int} {k i : Nat} (hk : k < x.length) (hi : i < x.length) : ((x.set k x[i]).set i x[k]).Perm x := by
 have h := Array.swap_perm (xs := x.toArray) (i := k) (j := i) (by simpa using hk) (by simpa using hi)
 have h2 := h.toList
 simpa using h2
def Si (o x : List Int) (i k : Nat) : Prop := x.Perm o ∧ (∀ a b, a < b → b < i → (hb : b < x.length) → x[a]! ≤ x[b]!) ∧ ∀ j, j < k → x[j]! ≤ x[i]!
theorem get_bang {x : List Int} {i : Nat} (h : i < x.length) : x[i]! = x[i] := getElem!_pos x i h
theorem bang_set {x : List Int} {i j : Nat} {v : Int} (hi : i < x.length) (hj : j < x.length) : (x.set i v)[j]! = if i = j then v else x[j]! := by
 rw [get_bang (by simpa using hj), List.getElem_set]
 split
 ·rfl
 ·exact (get_bang hj).symm
theorem bang_swap {x : List Int} {k i j : Nat} {u v : Int} (hk : k < x.length) (hi : i < x.length) (hj : j < x.length) : ((x.set k u).set i v)[j]! = if i = j then v else if k = j then u else x[j]! := by
 rw [bang_set (x := x.set k u) (by simpa using hi) (by simpa using hj), bang_set hk hj]
theorem rsort (o : List Int) (ho : o.length ≤ 1000) (m : Int) : ∀ (d i : Nat) (x : List Int), i + d = o.length → x.length = o.length → Si o x i 0 →
  Ev (fun k => almshouseref37_Pick.l2 k m x (o.length : Int) (i : Int)) (o.mergeSort fun x y => decide (x ≤ y), decide (m ≥ 0)) := by
 intro d
 induction d with
 | zero =>
  intro i x hi hx hS
  obtain rfl : i = o.length := by omega
  refine ev_succ (fun k => by rw [almshouseref37_Pick.l2]) ?_
  simp only [Int.lt_irrefl, if_false]
  have e : x = o.mergeSort fun x y => decide (x ≤ y) := by
   refine sorted_perm ?_ (sort_sorted o) (hS.1.trans (List.mergeSort_perm _ _).symm)
   rw [List.pairwise_iff_getElem]
   intro a b ha hb hab
   have := hS.2.1 a b hab (by omega) hb
   rw [get_bang ha, get_bang hb] at this
   exact this
  rw [e]
  exact ev_const _
 | succ d ih =>
  intro i x hi hx hS
  refine ev_succ (fun k => by rw [almshouseref37_Pick.l2]) ?_
  simp only [if_pos (show (i : Int) < (o.length : Int) by omega)]
  have inner : ∀ (e k : Nat) (x : List Int), k + e = i → x.length = o.length → Si o x i k →
    Ev (fun n => almshouseref37_Pick.l3 n m x (i : Int) (k : Int) (o.length : Int) (i : Int)) (o.mergeSort fun x y => decide (x ≤ y), decide (m ≥ 0)) := by
   intro e
   induction e with
   | zero =>
    intro k x hk hx hS
    obtain rfl : k = i := by omega
    refine ev_succ (fun k => by rw [almshouseref37_Pick.l3]) ?_
    simp only [Int.lt_irrefl, if_false, nx (j := k) (by omega)]
    refine ih (k + 1) x (by omega) hx ⟨hS.1, fun a b hab hb hb' => ?_, fun j hj => by omega⟩
    by_cases hbk : b = k
    ·subst hbk; exact hS.2.2 a hab
    ·exact hS.2.1 a b hab (by omega) hb'
   | succ e ihe =>
    intro k x hk hx hS
    have hkl : k < x.length := by omega
    have hil : i < x.length := by omega
    refine ev_succ (fun k => by rw [almshouseref37_Pick.l3]) ?_
    simp only [if_pos (show (k : Int) < (i : Int) by omega), if_pos (show (0 : Int) ≤ (k : Int) by omega), if_pos (show (k : Int) < (x.length : Int) by omega), if_pos (show (0 : Int) ≤ (i : Int) by omega), if_pos (show (i : Int) < (x.length : Int) by omega), rd_nat hkl, rd_nat hil, nx (j := k) (by omega), Int.toNat_natCast]
    by_cases hc : x[k] > x[i]
    ·simp only [if_pos hc]
     refine ihe (k + 1) _ (by omega) (by simpa using hx) ⟨(swap_perm hkl hil).trans hS.1, fun a b hab hb hb' => ?_, fun j hj => ?_⟩
     ·have hb'' : b < x.length := by simpa using hb'
      rw [bang_swap hkl hil (j := a) (by omega), bang_swap hkl hil (j := b) hb'', if_neg (show ¬ i = a by omega), if_neg (show ¬ i = b by omega)]
      by_cases ea : k = a
      ·subst ea
       rw [if_pos rfl, if_neg (by omega)]
       have := hS.2.1 k b hab hb hb''
       rw [get_bang hkl] at this
       omega
      ·rw [if_neg ea]
       by_cases eb : k = b
       ·subst eb
        rw [if_pos rfl]
        have := hS.2.2 a hab
        rw [get_bang hil] at this
        exact this
       ·rw [if_neg eb]
        exact hS.2.1 a b hab hb hb''
     ·rw [bang_swap hkl hil (j := j) (by omega), bang_swap hkl hil (j := i) hil, if_neg (show ¬ i = j by omega), if_pos rfl]
      by_cases ej : k = j
      ·subst ej; rw [if_pos rfl]; omega
      ·rw [if_neg ej]
       have := hS.2.1 j k (by omega) (by omega) hkl
       rw [get_bang hkl] at this
       exact this
    ·simp only [if_neg hc]
     refine ihe (k + 1) x (by omega) hx ⟨hS.1, hS.2.1, fun j hj => ?_⟩
     by_cases ej : j = k
     ·subst ej; rw [get_bang hkl, get_bang hil]; omega
     ·exact hS.2.2 j (by omega)
  exact inner i 0 x (by omega) hx hS
theorem rpick_l1 {C D B P : Int} (hG : Gd C D B P) (l : List Int) (hl : l.length ≤ 40) (m : Int) (out : List Int) (hout : out.length ≤ 1000) (r : List Int × Bool) : ∀ (d c : Nat) (b : Int), c + d = C.toNat → -1 ≤ b → b < c →
  (∀ b', bst (Rs C (C * D * B) l) (Ld C (C * D * B) out) d c b = b' → Ev (fun k => if b' < 0 then (some (([] : List Int), false)) else ((almshouseref37_Lane.f k C D B P l b').bind fun t227 => ((almshouseref37_Loads.f k C D B P out).bind fun t230 => (if 0 ≤ b' then (if b' < (t230.length : Int) then (if 0 ≤ (rd t230 b') then (if (rd t230 b') < (t227.length : Int) then (if out.length < 17592186044416 then (almshouseref37_Pick.l0 k l m (out ++ [rd t227 (rd t230 b')]) C D B P) else (none)) else (none)) else (none)) else (none)) else (none))))) r) →
  Ev (fun k => almshouseref37_Pick.l1 k l m out b (c : Int) C D B P) r := by
 have g := hG
 unfold Gd at g
 have hL := Ld_len C (C * D * B) out
 intro d
 induction d with
 | zero =>
  intro c b hc h0 h1 H
  obtain rfl : c = C.toNat := by omega
  refine ev_succ (fun k => by rw [almshouseref37_Pick.l1]) ?_
  simp only [if_neg (show ¬ (C.toNat : Int) < C by omega)]
  exact H b rfl
 | succ d ih =>
  intro c b hc h0 h1 H
  have hcC : (c : Int) < C := by omega
  refine ev_succ (fun k => by rw [almshouseref37_Pick.l1]) ?_
  simp only [if_pos hcC, nx (j := c) (by omega)]
  refine ev_bind (rloads_ok hG out hout) ?_
  simp only [if_pos (show (0 : Int) ≤ (c : Int) by omega), if_pos (show (c : Int) < ((Ld C (C * D * B) out).length : Int) by rw [hL]; omega)]
  refine ev_bind (lane_ok hG l (by omega) c (by omega)) ?_
  have h2 : bst (Rs C (C * D * B) l) (Ld C (C * D * B) out) (d + 1) c b = bst (Rs C (C * D * B) l) (Ld C (C * D * B) out) d (c + 1) (if rd (Ld C (C * D * B) out) c < ((R C (C * D * B) l c).length : Int) ∧ (b < 0 ∨ rd (Ld C (C * D * B) out) c < rd (Ld C (C * D * B) out) b) then (c : Int) else b) := by
   rw [bst, rd_Rs (by omega)]
  by_cases e1 : rd (Ld C (C * D * B) out) c < ((R C (C * D * B) l c).length : Int)
  ·simp only [if_pos e1]
   by_cases e2 : b < 0
   ·simp only [if_pos e2]
    refine ih (c + 1) (c : Int) (by omega) (by omega) (by omega) ?_
    rw [h2, if_pos ⟨e1, .inl e2⟩] at H
    exact H
   ·simp only [if_neg e2]
    refine ev_bind (rloads_ok hG out hout) ?_
    simp only [if_pos (show 0 ≤ b by omega), if_pos (show b < ((Ld C (C * D * B) out).length : Int) by rw [hL]; omega)]
    by_cases e3 : rd (Ld C (C * D * B) out) c < rd (Ld C (C * D * B) out) b
    ·simp only [if_pos e3]
     refine ih (c + 1) (c : Int) (by omega) (by omega) (by omega) ?_
     rw [h2, if_pos ⟨e1, .inr e3⟩] at H
     exact H
    ·simp only [if_neg e3]
     refine ih (c + 1) b (by omega) (by omega) (by omega) ?_
     rw [h2, if_neg (by rintro ⟨_, h | h⟩ <;> omega)] at H
     exact H
  ·simp only [if_neg e1]
   refine ih (c + 1) b (by omega) (by omega) (by omega) ?_
   rw [h2, if_neg (fun h => e1 h.1)] at H
   exact H
theorem Ld_pick {C D B P : Int} (hG : Gd C D B P) (l out : List Int) (ho : out.length ≤ 1000) {b : Nat} (hb : b < C.toNat) (hr : rd (Ld C (C * D * B) out) b < ((R C (C * D * B) l b).length : Int)) :
  Ld C (C * D * B) (out ++ [rd (R C (C * D * B) l b) (rd (Ld C (C * D * B) out) b)]) = (Ld C (C * D * B) out).set b (rd (Ld C (C * D * B) out) b + 1) := by
 have g := hG
 unfold Gd at g
 have e := rd_Ld (C := C) (N := C * D * B) (l := out) hb
 have hle : (Ln C (C * D * B) out b).length ≤ out.length := List.length_filter_le _ _
 rw [e] at hr ⊢
 have hx : rd (R C (C * D * B) l b) ((Ln C (C * D * B) out b).length : Int) ∈ R C (C * D * B) l b := by
  rw [rd_nat (by omega)]; exact List.getElem_mem _
 rw [R_mem] at hx
 obtain ⟨h0, h1, h2, _⟩ := hx
 rw [Ld_in (by omega) out _ h0 h1 (by omega), h2, Int.toNat_natCast, e, w64 (by omega) (by omega)]
theorem rpick_l0 {C D B P : Int} (hG : Gd C D B P) (l : List Int) (hl : l.length ≤ 40) (m : Nat) (hm : m ≤ 1000) : ∀ (d : Nat) (out : List Int), out.length + d = m → Tk (Rs C (C * D * B) l) (Ld C (C * D * B) out) →
  Ev (fun k => almshouseref37_Pick.l0 k l (m : Int) out C D B P) (pkr (pk (Rs C (C * D * B) l) d (Ld C (C * D * B) out) out)) := by
 have g := hG
 unfold Gd at g
 have hlen := Rs_len C (C * D * B) l
 intro d
 induction d with
 | zero =>
  intro out ho ht
  refine ev_succ (fun k => by rw [almshouseref37_Pick.l0]) ?_
  simp only [if_neg (show ¬ (out.length : Int) < (m : Int) by omega)]
  have := rsort out (by omega) (m : Int) out.length 0 out (by omega) rfl ⟨List.Perm.refl _, fun a b _ hb => by omega, fun j hj => by omega⟩
  rw [show decide ((m : Int) ≥ 0) = true by rw [decide_eq_true_eq]; omega] at this
  exact this
 | succ d ih =>
  intro out ho ht
  refine ev_succ (fun k => by rw [almshouseref37_Pick.l0]) ?_
  simp only [if_pos (show (out.length : Int) < (m : Int) by omega)]
  refine rpick_l1 hG l hl (m : Int) out (by omega) _ C.toNat 0 (-1) (by omega) (by omega) (by omega) ?_
  intro b' hb'
  have hbs : bs (Rs C (C * D * B) l) (Ld C (C * D * B) out) = b' := by unfold bs; rw [hlen]; exact hb'
  subst hbs
  by_cases hb : bs (Rs C (C * D * B) l) (Ld C (C * D * B) out) < 0
  ·have e : pk (Rs C (C * D * B) l) (d + 1) (Ld C (C * D * B) out) out = none := by rw [pk, if_pos hb]
   rw [e]
   exact ev_pos hb (ev_const _)
  ·obtain ⟨b, eb, hb1, hb2, _⟩ := bs_spec hb
   rw [hlen] at hb1
   rw [rd_Rs hb1] at hb2
   have e : pk (Rs C (C * D * B) l) (d + 1) (Ld C (C * D * B) out) out = pk (Rs C (C * D * B) l) d (Ld C (C * D * B) (out ++ [rd (R C (C * D * B) l b) (rd (Ld C (C * D * B) out) b)])) (out ++ [rd (R C (C * D * B) l b) (rd (Ld C (C * D * B) out) b)]) := by
    rw [pk, if_neg hb, eb, Int.toNat_natCast, rd_Rs hb1, ← Ld_pick hG l out (by omega) hb1 hb2]
   rw [e]
   refine ev_neg hb ?_
   rw [eb]
   have h1 := ht.2 b (by rw [hlen]; exact hb1)
   refine ev_bind (lane_ok hG l (by omega) b hb1) ?_
   refine ev_bind (rloads_ok hG out (by omega)) ?_
   simp only [if_pos (show (0 : Int) ≤ (b : Int) by omega), if_pos (show (b : Int) < ((Ld C (C * D * B) out).length : Int) by rw [Ld_len]; omega), if_pos h1.1, if_pos hb2, if_pos (show out.length < 17592186044416 by omega)]
   refine ih _ (by rw [List.length_append, List.length_singleton]; omega) ?_
   rw [Ld_pick hG l out (by omega) hb1 hb2]
   exact Tk_step ht (by rw [hlen]; exact hb1) (by rw [rd_Rs hb1]; exact hb2)
theorem rpick_ok {C D B P : Int} (hG : Gd C D B P) (l : List Int) (hl : l.length ≤ 40) (m : Nat) (hm : m ≤ 1000) :
  Ev (fun k => almshouseref37_Pick.f k C D B P l (m : Int)) (pkr (pk (Rs C (C * D * B) l) m (List.replicate C.toNat 0) [])) := by
 unfold almshouseref37_Pick.f
 have := rpick_l0 hG l hl m hm m [] (by simp) (by rw [Ld_zero, ← Rs_len C (C * D * B) l]; exact Tk_zero _)
 rw [Ld_zero] at this
 exact this
theorem rpick_neg {C D B P : Int} (hG : Gd C D B P) (l : List Int) (m : Int) (hm : m < 0) : Ev (fun k => almshouseref37_Pick.f k C D B P l m) ([], false) := by
 unfold almshouseref37_Pick.f
 refine ev_succ (fun k => by rw [almshouseref37_Pick.l0]) ?_
 simp only [List.length_nil, if_neg (show ¬ (((0 : Nat) : Int)) < m by omega)]
 have := rsort [] (by simp) m 0 0 [] rfl rfl ⟨List.Perm.refl _, fun a b _ hb => by omega, fun j hj => by omega⟩
 rw [show decide (m ≥ 0) = false by rw [decide_eq_false_iff_not]; omega] at this
 simpa using this
theorem same_ok (a b : List Int) (ha : a.length ≤ 100000) : Ev (fun k => almshouselaw37_same.f k a b) (decide (a = b)) := by
 unfold almshouselaw37_same.f
 by_cases h : a.length = b.length
 ·simp only [if_pos (show (a.length : Int) = (b.length : Int) by omega)]
  have key : ∀ (d i : Nat), i + d = a.length → Ev (fun k => almshouselaw37_same.l0 k a b (a.length : Int) (i : Int)) (decide (a.drop i = b.drop i)) := by
   intro d
   induction d with
   | zero =>
    intro i hi
    obtain rfl : i = a.length := by omega
    refine ev_succ (fun k => by rw [almshouselaw37_same.l0]) ?_
    simp only [Int.lt_irrefl, if_false]
    rw [List.drop_length, List.drop_eq_nil_of_le (by omega)]
    exact ev_const _
   | succ d ih =>
    intro i hi
    have h1 : i < a.length := by omega
    have h2 : i < b.length := by omega
    refine ev_succ (fun k => by rw [almshouselaw37_same.l0]) ?_
    simp only [if_pos (show (i : Int) < (a.length : Int) by omega), if_pos (show (0 : Int) ≤ (i : Int) by omega), if_pos (show (i : Int) < (b.length : Int) by omega), rd_nat h1, rd_nat h2, nx (j := i) (by omega)]
    rw [List.drop_eq_getElem_cons h1, List.drop_eq_getElem_cons h2]
    by_cases e : a[i] = b[i]
    ·simp only [if_pos e]
     rw [show decide (a[i] :: List.drop (i + 1) a = b[i] :: List.drop (i + 1) b) = decide (List.drop (i + 1) a = List.drop (i + 1) b) by rw [decide_eq_decide, List.cons.injEq]; exact ⟨fun h => h.2, fun h => ⟨e, h⟩⟩]
     exact ih (i + 1) (by omega)
    ·simp only [if_neg e]
     rw [show decide (a[i] :: List.drop (i + 1) a = b[i] :: List.drop (i + 1) b) = false by rw [decide_eq_false_iff_not, List.cons.injEq]; exact fun h => e h.1]
     exact ev_const _
  have := key a.length 0 (by omega)
  simpa using this
 ·simp only [if_neg (show ¬ (a.length : Int) = (b.length : Int) by omega)]
  rw [show decide (a = b) = false by rw [decide_eq_false_iff_not]; intro e; subst e; exact h rfl]
  exact ev_const _
theorem fold_max_mem (l : List Int) : ∀ a : Int, l.foldl max a = a ∨ l.foldl max a ∈ l := by
 induction l with
 | nil => intro a; exact .inl rfl
 | cons b t ih =>
  intro a
  rw [List.foldl_cons]
  rcases ih (max a b) with h | h
  ·rw [h]
   by_cases hab : a ≤ b
   ·right; rw [Int.max_eq_right hab]; exact List.mem_cons_self
   ·left; omega
  ·exact .inr (List.mem_cons_of_mem _ h)
theorem fold_min_mem (l : List Int) : ∀ a : Int, l.foldl min a = a ∨ l.foldl min a ∈ l := by
 induction l with
 | nil => intro a; exact .inl rfl
 | cons b t ih =>
  intro a
  rw [List.foldl_cons]
  rcases ih (min a b) with h | h
  ·rw [h]
   by_cases hab : b ≤ a
   ·right; rw [Int.min_eq_right hab]; exact List.mem_cons_self
   ·left; omega
  ·exact .inr (List.mem_cons_of_mem _ h)
theorem Ld_pos {C : Int} (hC : 0 < C) (N : Int) (l : List Int) : 0 < (Ld C N l).length := by rw [Ld_len]; omega
theorem Ld_bd (C N : Int) (l : List Int) : ∀ x, x ∈ Ld C N l → 0 ≤ x ∧ x ≤ l.length := by
 intro x hx
 unfold Ld at hx
 rw [List.mem_map] at hx
 obtain ⟨c, _, rfl⟩ := hx
 have : (Ln C N l c).length ≤ l.length := List.length_filter_le _ _
 omega
def spread (x : List Int) : Int := x.foldl max (x.headD 0) - x.foldl min (x.headD 0)
theorem spread_bd {C N : Int} (hC : 0 < C) (l : List Int) (hl : l.length ≤ 1000) : -1000 ≤ spread (Ld C N l) ∧ spread (Ld C N l) ≤ 1000 ∧ 0 ≤ (Ld C N l).foldl max ((Ld C N l).headD 0) ∧ (Ld C N l).foldl max ((Ld C N l).headD 0) ≤ 1000 ∧ 0 ≤ (Ld C N l).foldl min ((Ld C N l).headD 0) ∧ (Ld C N l).foldl min ((Ld C N l).headD 0) ≤ 1000 := by
 have hb := Ld_bd C N l
 have hp := Ld_pos hC N l
 have hh : 0 ≤ (Ld C N l).headD 0 ∧ (Ld C N l).headD 0 ≤ l.length := by
  cases h : Ld C N l with
  | nil => rw [h] at hp; simp at hp
  | cons a t => exact hb a (by rw [h]; exact List.mem_cons_self)
 have h1 : 0 ≤ (Ld C N l).foldl max ((Ld C N l).headD 0) ∧ (Ld C N l).foldl max ((Ld C N l).headD 0) ≤ l.length := by
  rcases fold_max_mem (Ld C N l) ((Ld C N l).headD 0) with h | h
  ·rw [h]; exact hh
  ·exact hb _ h
 have h2 : 0 ≤ (Ld C N l).foldl min ((Ld C N l).headD 0) ∧ (Ld C N l).foldl min ((Ld C N l).headD 0) ≤ l.length := by
  rcases fold_min_mem (Ld C N l) ((Ld C N l).headD 0) with h | h
  ·rw [h]; exact hh
  ·exact hb _ h
 unfold spread
 omega
theorem even_ok {C D B P : Int} (hG : Gd C D B P) (l : List Int) (hl : l.length ≤ 1000) : Ev (fun k => stripe_Even.f k C D B P l) (decide (spread (Ld C (C * D * B) l) ≤ 1)) := by
 have g := hG
 unfold Gd at g
 have hp := Ld_pos (show 0 < C by omega) (C * D * B) l
 have hs := spread_bd (N := C * D * B) (show 0 < C by omega) l hl
 unfold stripe_Even.f
 refine ev_bind (loads_ok hG l hl) ?_
 simp only [if_neg (show ¬ ((Ld C (C * D * B) l).length : Int) = 0 by omega)]
 refine ev_bind (ev_of (a := Lib.maxOf (Ld C (C * D * B) l)) (by unfold slices_Max_int_int.f; rw [if_pos hp])) ?_
 refine ev_bind (ev_of (a := Lib.minOf (Ld C (C * D * B) l)) (by unfold slices_Min_int_int.f; rw [if_pos hp])) ?_
 unfold spread at hs ⊢
 unfold Lib.maxOf Lib.minOf
 rw [w64 (by omega) (by omega)]
 exact ev_const _
end Go.Proofs.Yteedjokkfiglhaa.St
