-- Cut by a program of this session (wip/pr/pack.py) to what one claim needs.
import Derived.Test.YteedjokkfiglhaaBStripe
namespace Go.Proofs.Yteedjokkfiglhaa.St
open Go.RowKit Go.Proofs.YteedjokkfiglhaaW.PrintWords Go.Proofs.YteedjokkfiglhaaW.PrintLast Go.Proofs.YteedjokkfiglhaaW.PrintMore Go.Proofs.Yteedjokkfiglhaa.P Go.Proofs.Yteedjokkfiglhaa.X Go.Proofs.Yteedjokkfiglhaa.Gen
set_option linter.unusedVariables false
def Ld (C N : Int) (l : List Int) : List Int := (List.range C.toNat).map fun c => ((Ln C N l c).length : Int)
theorem Ld_len (C N : Int) (l : List Int) : (Ld C N l).length = C.toNat := by simp [Ld]
theorem rd_Ld {C N : Int} {l : List Int} {c : Nat} (h : c < C.toNat) : rd (Ld C N l) (c : Int) = ((Ln C N l c).length : Int) := by
 unfold rd Ld
 rw [List.getD_eq_getElem?_getD, Int.toNat_natCast, List.getElem?_map, List.getElem?_range h]; rfl
theorem Ln_snoc (C N : Int) (l : List Int) (b : Int) (c : Nat) : Ln C N (l ++ [b]) c = Ln C N l c ++ (if 0 ≤ b ∧ b < N ∧ b % C = (c : Int) then [b] else []) := by
 unfold Ln
 rw [List.filter_append]
 congr 1
 by_cases e : 0 ≤ b ∧ b < N ∧ b % C = (c : Int)
 ·rw [if_pos e]; simp [e.1, e.2.1, e.2.2]
 ·rw [if_neg e, List.filter_eq_nil_iff]
  intro a ha
  rw [List.mem_singleton] at ha
  subst ha
  simp only [Bool.and_eq_true, decide_eq_true_eq]
  intro h
  exact e ⟨h.1.1, h.1.2, h.2⟩
theorem Ld_in {C N : Int} (hC : 0 < C) (l : List Int) (b : Int) (h0 : 0 ≤ b) (h1 : b < N) (hl : l.length ≤ 100000) :
  Ld C N (l ++ [b]) = (Ld C N l).set (b % C).toNat (wrap64 (rd (Ld C N l) (b % C) + 1)) := by
 have hm0 : 0 ≤ b % C := Int.emod_nonneg _ (by omega)
 have hm1 : b % C < C := Int.emod_lt_of_pos _ hC
 obtain ⟨c0, hc0⟩ : ∃ c0 : Nat, b % C = (c0 : Int) := ⟨(b % C).toNat, by omega⟩
 have hle : (Ln C N l c0).length ≤ l.length := List.length_filter_le _ _
 rw [hc0, rd_Ld (by omega), Int.toNat_natCast, w64 (by omega) (by omega)]
 apply List.ext_getElem
 ·simp [Ld]
 ·intro j hj1 hj2
  rw [List.getElem_set]
  unfold Ld
  simp only [List.getElem_map, List.getElem_range, Ln_snoc]
  by_cases e : c0 = j
  ·subst e; rw [if_pos rfl, if_pos ⟨h0, h1, hc0⟩]; simp
  ·rw [if_neg e, if_neg (by rintro ⟨_, _, h⟩; omega), List.append_nil]
theorem Ld_out {C N : Int} (l : List Int) (b : Int) (h : ¬ (0 ≤ b ∧ b < N)) : Ld C N (l ++ [b]) = Ld C N l := by
 unfold Ld
 refine List.map_congr_left (fun c _ => ?_)
 rw [Ln_snoc, if_neg (by rintro ⟨a, b, _⟩; exact h ⟨a, b⟩), List.append_nil]
theorem Ld_zero (C N : Int) : Ld C N [] = List.replicate C.toNat 0 := by
 apply List.ext_getElem
 ·simp [Ld]
 ·intro i h1 h2; simp [Ld, Ln]
theorem loads_l0 {C D B P : Int} (hG : Gd C D B P) (t : List Int) (ht : t.length ≤ 1000) : ∀ (d : Nat) (i : Nat), i + d = t.length →
  Ev (fun k => stripe_Loads.l0 k (Ld C (C * D * B) (t.take i)) t (t.length : Int) (i : Int) C D B P) (Ld C (C * D * B) t) := by
 intro d
 induction d with
 | zero =>
  intro i hi
  obtain rfl : i = t.length := by omega
  refine ev_succ (fun k => by rw [stripe_Loads.l0]) ?_
  simp only [Int.lt_irrefl, if_false, List.take_length]
  exact ev_const _
 | succ d ih =>
  intro i hi
  have hlt : i < t.length := by omega
  have hr : rd t (i : Int) = t[i] := rd_nat hlt
  have g := hG
  unfold Gd at g
  have htk : t.take (i + 1) = t.take i ++ [t[i]] := List.take_succ_eq_append_getElem hlt
  refine ev_succ (fun k => by rw [stripe_Loads.l0]) ?_
  simp only [if_pos (show (i : Int) < (t.length : Int) by omega), if_pos (show (0 : Int) ≤ (i : Int) by omega), hr, nx (j := i) (by omega)]
  by_cases h0 : t[i] ≥ 0
  ·simp only [if_pos h0]
   refine ev_bind (blocks_ok hG) ?_
   by_cases h2 : t[i] < C * D * B
   ·have hm0 : 0 ≤ t[i] % C := Int.emod_nonneg _ (by omega)
    have hm1 : t[i] % C < C := Int.emod_lt_of_pos _ (by omega)
    have hlen : ((Ld C (C * D * B) (t.take i)).length : Int) = C := by rw [Ld_len]; omega
    simp only [if_pos h2, if_neg (show ¬ C = 0 by omega), Int.tmod_eq_emod_of_nonneg h0, if_pos hm0, hlen, if_pos hm1]
    rw [← Ld_in (by omega) (t.take i) t[i] h0 h2 (by simp; omega), ← htk]
    exact ih (i + 1) (by omega)
   ·simp only [if_neg h2]
    rw [← Ld_out (C := C) (N := C * D * B) (t.take i) t[i] (by omega), ← htk]
    exact ih (i + 1) (by omega)
  ·simp only [if_neg h0]
   rw [← Ld_out (C := C) (N := C * D * B) (t.take i) t[i] (by omega), ← htk]
   exact ih (i + 1) (by omega)
theorem loads_ok {C D B P : Int} (hG : Gd C D B P) (l : List Int) (hl : l.length ≤ 1000) : Ev (fun k => stripe_Loads.f k C D B P l) (Ld C (C * D * B) l) := by
 have g := hG
 unfold Gd at g
 unfold stripe_Loads.f
 refine ev_bind (check_ok hG) ?_
 simp only [if_true, if_pos (show 0 ≤ C by omega), if_pos (show C.toNat ≤ 35184372088832 by omega)]
 have := loads_l0 hG l hl _ 0 (by rw [Nat.zero_add])
 rw [List.take_zero, Ld_zero] at this
 exact this
theorem rloads_l0 {C D B P : Int} (hG : Gd C D B P) (t : List Int) (ht : t.length ≤ 1000) : ∀ (d : Nat) (i : Nat), i + d = t.length →
  Ev (fun k => almshouseref37_Loads.l0 k (Ld C (C * D * B) (t.take i)) t (t.length : Int) (i : Int) C D B P) (Ld C (C * D * B) t) := by
 intro d
 induction d with
 | zero =>
  intro i hi
  obtain rfl : i = t.length := by omega
  refine ev_succ (fun k => by rw [almshouseref37_Loads.l0]) ?_
  simp only [Int.lt_irrefl, if_false, List.take_length]
  exact ev_const _
 | succ d ih =>
  intro i hi
  have hlt : i < t.length := by omega
  have hr : rd t (i : Int) = t[i] := rd_nat hlt
  have g := hG
  unfold Gd at g
  have htk : t.take (i + 1) = t.take i ++ [t[i]] := List.take_succ_eq_append_getElem hlt
  refine ev_succ (fun k => by rw [almshouseref37_Loads.l0]) ?_
  simp only [if_pos (show (i : Int) < (t.length : Int) by omega), if_pos (show (0 : Int) ≤ (i : Int) by omega), hr, nx (j := i) (by omega), prodG hG]
  by_cases h0 : t[i] ≥ 0
  ·simp only [if_pos h0]
   by_cases h2 : t[i] < C * D * B
   ·have hm0 : 0 ≤ t[i] % C := Int.emod_nonneg _ (by omega)
    have hm1 : t[i] % C < C := Int.emod_lt_of_pos _ (by omega)
    have hlen : ((Ld C (C * D * B) (t.take i)).length : Int) = C := by rw [Ld_len]; omega
    simp only [if_pos h2, if_neg (show ¬ C = 0 by omega), Int.tmod_eq_emod_of_nonneg h0, if_pos hm0, hlen, if_pos hm1]
    rw [← Ld_in (by omega) (t.take i) t[i] h0 h2 (by simp; omega), ← htk]
    exact ih (i + 1) (by omega)
   ·simp only [if_neg h2]
    rw [← Ld_out (C := C) (N := C * D * B) (t.take i) t[i] (by omega), ← htk]
    exact ih (i + 1) (by omega)
  ·simp only [if_neg h0]
   rw [← Ld_out (C := C) (N := C * D * B) (t.take i) t[i] (by omega), ← htk]
   exact ih (i + 1) (by omega)
theorem rloads_ok {C D B P : Int} (hG : Gd C D B P) (l : List Int) (hl : l.length ≤ 1000) : Ev (fun k => almshouseref37_Loads.f k C D B P l) (Ld C (C * D * B) l) := by
 have g := hG
 unfold Gd at g
 unfold almshouseref37_Loads.f
 simp only [if_pos (show 0 ≤ C by omega), if_pos (show C.toNat ≤ 35184372088832 by omega)]
 have := rloads_l0 hG l hl _ 0 (by rw [Nat.zero_add])
 rw [List.take_zero, Ld_zero] at this
 exact this
def pc (i : Nat) (x : List Int) : List Int := if i < x.length then [x.getD i 0] else []
def rnd (L : List (List Int)) (i : Nat) : List Int := L.flatMap (pc i)
theorem pc_len (i : Nat) (x : List Int) : (pc i x).length ≤ 1 := by unfold pc; split <;> simp
theorem rnd_len (L : List (List Int)) (i : Nat) : (rnd L i).length ≤ L.length := by
 induction L with
 | nil => simp [rnd]
 | cons a t ih =>
  have := pc_len i a
  unfold rnd at *
  rw [List.flatMap_cons, List.length_append, List.length_cons]; omega
theorem rnd_nil {L : List (List Int)} {i j : Nat} (hij : i ≤ j) (h : rnd L i = []) : rnd L j = [] := by
 unfold rnd at *
 rw [List.flatMap_eq_nil_iff] at *
 intro x hx
 have := h x hx
 unfold pc at *
 split at this
 ·cases this
 ·rw [if_neg (by omega)]
theorem rnd_end {L : List (List Int)} {m : Nat} (h : ∀ x, x ∈ L → x.length ≤ m) : rnd L m = [] := by
 unfold rnd
 rw [List.flatMap_eq_nil_iff]
 intro x hx
 unfold pc
 rw [if_neg (by have := h x hx; omega)]
theorem flat_nil {L : List (List Int)} {i d : Nat} (h : rnd L i = []) : (List.range' i d).flatMap (rnd L) = [] := by
 rw [List.flatMap_eq_nil_iff]
 intro j hj
 rw [List.mem_range'_1] at hj
 exact rnd_nil hj.1 h
theorem rdL_nat {L : List (List Int)} {j : Nat} (h : j < L.length) : rd_L1 L (j : Int) = L[j] := by
 unfold rd_L1; rw [List.getD_eq_getElem?_getD, Int.toNat_natCast, List.getElem?_eq_getElem h]; rfl
theorem order_l1 (L : List (List Int)) (hL : L.length ≤ 100) (i w : Nat) (hi : i ≤ 64) (r : List Int) : ∀ (d j : Nat) (acc : List Int), j + d = L.length → acc.length + d ≤ 100000 →
  Ev (fun k => if ((acc ++ (L.drop j).flatMap (pc i)).length : Int) = (w : Int) then some (acc ++ (L.drop j).flatMap (pc i)) else stripe_Order.l0 k L (acc ++ (L.drop j).flatMap (pc i)) (wrap64 ((i : Int) + 1))) r →
  Ev (fun k => stripe_Order.l1 k L acc (i : Int) (w : Int) L (L.length : Int) (j : Int)) r := by
 intro d
 induction d with
 | zero =>
  intro j acc hj ha H
  obtain rfl : j = L.length := by omega
  refine ev_succ (fun k => by rw [stripe_Order.l1]) ?_
  simp only [Int.lt_irrefl, if_false]
  simpa only [List.drop_length, List.flatMap_nil, List.append_nil] using H
 | succ d ih =>
  intro j acc hj ha H
  have hlt : j < L.length := by omega
  refine ev_succ (fun k => by rw [stripe_Order.l1]) ?_
  rw [List.drop_eq_getElem_cons hlt] at H
  simp only [List.flatMap_cons] at H
  simp only [if_pos (show (j : Int) < (L.length : Int) by omega), if_pos (show (0 : Int) ≤ (j : Int) by omega), rdL_nat hlt, nx (j := j) (by omega)]
  by_cases h : i < L[j].length
  ·simp only [if_pos (show (i : Int) < (L[j].length : Int) by omega), if_pos (show (0 : Int) ≤ (i : Int) by omega), if_pos (show acc.length < 17592186044416 by omega)]
   have e : rd L[j] (i : Int) = L[j].getD i 0 := by unfold rd; rw [Int.toNat_natCast]
   rw [e]
   have ep : pc i L[j] = [L[j].getD i 0] := by unfold pc; rw [if_pos h]
   refine ih (j + 1) _ (by omega) (by simp; omega) ?_
   rw [ep] at H
   simpa only [List.append_assoc] using H
  ·simp only [if_neg (show ¬ (i : Int) < (L[j].length : Int) by omega)]
   have ep : pc i L[j] = [] := by unfold pc; rw [if_neg h]
   refine ih (j + 1) _ (by omega) (by omega) ?_
   rw [ep] at H
   simpa only [List.nil_append] using H
theorem order_l0 (L : List (List Int)) (hL : L.length ≤ 100) (hx : ∀ x, x ∈ L → x.length ≤ 64) : ∀ (d i : Nat) (acc : List Int), i + d = 64 → acc.length ≤ 100 * i →
  Ev (fun k => stripe_Order.l0 k L acc (i : Int)) (acc ++ (List.range' i d).flatMap (rnd L)) := by
 intro d
 induction d with
 | zero =>
  intro i acc hi ha
  obtain rfl : i = 64 := by omega
  refine ev_succ (fun k => by rw [stripe_Order.l0]) ?_
  refine order_l1 L hL 64 acc.length (by omega) _ L.length 0 acc (by omega) (by omega) ?_
  have h := rnd_end (m := 64) hx
  unfold rnd at h
  simp only [List.drop_zero, h, List.append_nil, if_true, List.range'_zero, List.flatMap_nil]
  exact ev_const _
 | succ d ih =>
  intro i acc hi ha
  refine ev_succ (fun k => by rw [stripe_Order.l0]) ?_
  refine order_l1 L hL i acc.length (by omega) _ L.length 0 acc (by omega) (by omega) ?_
  simp only [List.drop_zero]
  show Ev (fun k => if ((acc ++ rnd L i).length : Int) = (acc.length : Int) then some (acc ++ rnd L i) else stripe_Order.l0 k L (acc ++ rnd L i) (wrap64 ((i : Int) + 1))) _
  by_cases h : rnd L i = []
  ·simp only [h, List.append_nil, if_true, flat_nil h]
   exact ev_const _
  ·have hne : (rnd L i).length ≠ 0 := fun e => h (List.eq_nil_of_length_eq_zero e)
   have hle := rnd_len L i
   simp only [if_neg (show ¬ ((acc ++ rnd L i).length : Int) = (acc.length : Int) by rw [List.length_append]; omega), nx (j := i) (by omega), List.range'_succ, List.flatMap_cons]
   rw [← List.append_assoc]
   exact ih (i + 1) _ (by omega) (by rw [List.length_append]; omega)
def Od (C N : Int) (l : List Int) : List Int := (List.range' 0 64).flatMap (rnd (Rs C N l))
theorem Rs_le {C D B P : Int} (hG : Gd C D B P) (l : List Int) : ∀ x, x ∈ Rs C (C * D * B) l → x.length ≤ 64 := by
 have g := hG
 unfold Gd at g
 intro x hx
 unfold Rs at hx
 rw [List.mem_map] at hx
 obtain ⟨c, _, rfl⟩ := hx
 have := R_len C (C * D * B) l c
 omega
theorem order_ok {C D B P : Int} (hG : Gd C D B P) (l : List Int) (hl : l.length ≤ 40) : Ev (fun k => stripe_Order.f k C D B P l) (Od C (C * D * B) l) := by
 have g := hG
 unfold Gd at g
 unfold stripe_Order.f
 refine ev_bind (lanes_ok hG l hl) ?_
 have := order_l0 (Rs C (C * D * B) l) (by rw [Rs_len]; omega) (Rs_le hG l) 64 0 [] (by omega) (by simp)
 rw [List.nil_append] at this
 exact this
def bst (L : List (List Int)) (tk : List Int) : Nat → Nat → Int → Int
 | 0, _, b => b
 | d + 1, c, b => bst L tk d (c + 1) (if rd tk c < ((rd_L1 L c).length : Int) ∧ (b < 0 ∨ rd tk c < rd tk b) then (c : Int) else b)
theorem bst_range (L : List (List Int)) (tk : List Int) : ∀ (d c : Nat) (b : Int), -1 ≤ b → b < c → -1 ≤ bst L tk d c b ∧ bst L tk d c b < ((c + d : Nat) : Int) := by
 intro d
 induction d with
 | zero => intro c b h0 h1; exact ⟨h0, by simpa [bst] using h1⟩
 | succ d ih =>
  intro c b h0 h1
  have := ih (c + 1) (if rd tk c < ((rd_L1 L c).length : Int) ∧ (b < 0 ∨ rd tk c < rd tk b) then (c : Int) else b) (by split <;> omega) (by split <;> omega)
  rw [show c + (d + 1) = c + 1 + d by omega]
  exact this
theorem bst_spec (L : List (List Int)) (tk : List Int) : ∀ (d c : Nat) (b : Int), -1 ≤ b → b < c →
  (0 ≤ b → rd tk b < ((rd_L1 L b).length : Int)) → (∀ j : Nat, j < c → rd tk j < ((rd_L1 L j).length : Int) → 0 ≤ b ∧ rd tk b ≤ rd tk j) →
  (0 ≤ bst L tk d c b → rd tk (bst L tk d c b) < ((rd_L1 L (bst L tk d c b)).length : Int)) ∧
  (∀ j : Nat, j < c + d → rd tk j < ((rd_L1 L j).length : Int) → 0 ≤ bst L tk d c b ∧ rd tk (bst L tk d c b) ≤ rd tk j) := by
 intro d
 induction d with
 | zero => intro c b h0 h1 h2 h3; exact ⟨h2, h3⟩
 | succ d ih =>
  intro c b h0 h1 h2 h3
  rw [show c + (d + 1) = c + 1 + d by omega]
  by_cases hc : rd tk c < ((rd_L1 L c).length : Int) ∧ (b < 0 ∨ rd tk c < rd tk b)
  ·have e : bst L tk (d + 1) c b = bst L tk d (c + 1) (c : Int) := by rw [bst, if_pos hc]
   rw [e]
   refine ih (c + 1) (c : Int) (by omega) (by omega) (fun _ => hc.1) (fun j hj hr => ⟨by omega, ?_⟩)
   by_cases ej : j = c
   ·subst ej; exact Int.le_refl _
   ·obtain ⟨a1, a2⟩ := h3 j (by omega) hr
    rcases hc.2 with h | h <;> omega
  ·have e : bst L tk (d + 1) c b = bst L tk d (c + 1) b := by rw [bst, if_neg hc]
   rw [e]
   refine ih (c + 1) b h0 (by omega) h2 (fun j hj hr => ?_)
   by_cases ej : j = c
   ·subst ej
    have : ¬ (b < 0 ∨ rd tk j < rd tk b) := fun h => hc ⟨hr, h⟩
    omega
   ·exact h3 j (by omega) hr
def bs (L : List (List Int)) (tk : List Int) : Int := bst L tk L.length 0 (-1)
def pk (L : List (List Int)) : Nat → List Int → List Int → Option (List Int × List Int)
 | 0, tk, out => some (tk, out)
 | d + 1, tk, out => if bs L tk < 0 then none else pk L d (tk.set (bs L tk).toNat (rd tk (bs L tk) + 1)) (out ++ [rd (rd_L1 L (bs L tk)) (rd tk (bs L tk))])
def Tk (L : List (List Int)) (tk : List Int) : Prop := tk.length = L.length ∧ ∀ c : Nat, c < L.length → 0 ≤ rd tk c ∧ rd tk c ≤ ((rd_L1 L c).length : Int)
theorem bs_spec {L : List (List Int)} {tk : List Int} (h : ¬ bs L tk < 0) : ∃ b : Nat, bs L tk = (b : Int) ∧ b < L.length ∧ rd tk b < ((rd_L1 L b).length : Int) ∧ ∀ j : Nat, j < L.length → rd tk j < ((rd_L1 L j).length : Int) → rd tk b ≤ rd tk j := by
 have h1 := bst_range L tk L.length 0 (-1) (by omega) (by omega)
 have h2 := bst_spec L tk L.length 0 (-1) (by omega) (by omega) (fun h => by omega) (fun j hj => by omega)
 unfold bs at h ⊢
 refine ⟨(bst L tk L.length 0 (-1)).toNat, by omega, by omega, ?_, ?_⟩
 ·have := h2.1 (by omega)
  rw [show ((bst L tk L.length 0 (-1)).toNat : Int) = bst L tk L.length 0 (-1) by omega]
  exact this
 ·intro j hj hr
  rw [show ((bst L tk L.length 0 (-1)).toNat : Int) = bst L tk L.length 0 (-1) by omega]
  exact (h2.2 j (by omega) hr).2
theorem bs_none {L : List (List Int)} {tk : List Int} (h : bs L tk < 0) : ∀ j : Nat, j < L.length → ¬ rd tk j < ((rd_L1 L j).length : Int) := by
 have h2 := bst_spec L tk L.length 0 (-1) (by omega) (by omega) (fun h => by omega) (fun j hj => by omega)
 unfold bs at h
 intro j hj hr
 have := (h2.2 j (by omega) hr).1
 omega
theorem Tk_step {L : List (List Int)} {tk : List Int} (ht : Tk L tk) {b : Nat} (hb : b < L.length) (hr : rd tk b < ((rd_L1 L b).length : Int)) : Tk L (tk.set b (rd tk b + 1)) := by
 refine ⟨by rw [List.length_set]; exact ht.1, fun c hc => ?_⟩
 have h1 := ht.2 c hc
 have h2 := ht.2 b hb
 have := rd_set (xs := tk) (i := (b : Int)) (j := (c : Int)) (v := rd tk b + 1) (by omega) (by rw [ht.1]; omega) (by omega)
 rw [Int.toNat_natCast] at this
 rw [this]
 split
 ·rename_i e
  obtain rfl : c = b := by omega
  omega
 ·exact h1
def pkr (x : Option (List Int × List Int)) : List Int × Bool := match x with
 | some (_, o) => (o.mergeSort fun x y => decide (x ≤ y), true)
 | none => ([], false)
theorem pick_l1 (L : List (List Int)) (hL : L.length ≤ 100) (hx : ∀ x, x ∈ L → x.length ≤ 64) (m : Int) (tk out : List Int) (ht : Tk L tk) (r : List Int × Bool) : ∀ (d c : Nat) (b : Int), c + d = L.length → -1 ≤ b → b < c →
  (∀ b', bst L tk d c b = b' → Ev (fun k => if b' < 0 then (some (([] : List Int), false)) else (if 0 ≤ b' then (if b' < (L.length : Int) then (if b' < (tk.length : Int) then (if 0 ≤ (rd tk b') then (if (rd tk b') < ((rd_L1 L b').length : Int) then (if out.length < 17592186044416 then (stripe_Pick.l0 k m L (tk.set (b' : Int).toNat (wrap64 ((rd tk b') + 1))) (out ++ [rd (rd_L1 L b') (rd tk b')])) else (none)) else (none)) else (none)) else (none)) else (none)) else (none))) r) →
  Ev (fun k => stripe_Pick.l1 k m L tk out b L (L.length : Int) (c : Int)) r := by
 intro d
 induction d with
 | zero =>
  intro c b hc h0 h1 H
  obtain rfl : c = L.length := by omega
  refine ev_succ (fun k => by rw [stripe_Pick.l1]) ?_
  simp only [Int.lt_irrefl, if_false]
  exact H b rfl
 | succ d ih =>
  intro c b hc h0 h1 H
  have hlt : c < L.length := by omega
  refine ev_succ (fun k => by rw [stripe_Pick.l1]) ?_
  simp only [if_pos (show (c : Int) < (L.length : Int) by omega), if_pos (show (0 : Int) ≤ (c : Int) by omega), ht.1, nx (j := c) (by omega)]
  have h2 : bst L tk (d + 1) c b = bst L tk d (c + 1) (if rd tk c < ((rd_L1 L c).length : Int) ∧ (b < 0 ∨ rd tk c < rd tk b) then (c : Int) else b) := rfl
  by_cases e1 : rd tk c < ((rd_L1 L c).length : Int)
  ·simp only [if_pos e1]
   by_cases e2 : b < 0
   ·simp only [if_pos e2]
    refine ih (c + 1) (c : Int) (by omega) (by omega) (by omega) ?_
    rw [h2, if_pos ⟨e1, .inl e2⟩] at H
    simpa only [ht.1] using H
   ·simp only [if_neg e2, if_pos (show 0 ≤ b by omega), if_pos (show b < (L.length : Int) by omega)]
    by_cases e3 : rd tk c < rd tk b
    ·simp only [if_pos e3]
     refine ih (c + 1) (c : Int) (by omega) (by omega) (by omega) ?_
     rw [h2, if_pos ⟨e1, .inr e3⟩] at H
     simpa only [ht.1] using H
    ·simp only [if_neg e3]
     refine ih (c + 1) b (by omega) (by omega) (by omega) ?_
     rw [h2, if_neg (by rintro ⟨_, h | h⟩ <;> omega)] at H
     simpa only [ht.1] using H
  ·simp only [if_neg e1]
   refine ih (c + 1) b (by omega) (by omega) (by omega) ?_
   rw [h2, if_neg (fun h => e1 h.1)] at H
   simpa only [ht.1] using H
theorem pick_l0 (L : List (List Int)) (hL : L.length ≤ 100) (hx : ∀ x, x ∈ L → x.length ≤ 64) (m : Nat) (hm : m ≤ 1000) : ∀ (d : Nat) (tk out : List Int), out.length + d = m → Tk L tk →
  Ev (fun k => stripe_Pick.l0 k (m : Int) L tk out) (pkr (pk L d tk out)) := by
 intro d
 induction d with
 | zero =>
  intro tk out ho ht
  refine ev_succ (fun k => by rw [stripe_Pick.l0]) ?_
  simp only [if_neg (show ¬ (out.length : Int) < (m : Int) by omega)]
  refine ev_bind (ev_of (a := out.mergeSort fun x y => decide (x ≤ y)) (by unfold slices_Sort_int_int.f; rw [if_pos (by omega)])) ?_
  exact ev_const _
 | succ d ih =>
  intro tk out ho ht
  refine ev_succ (fun k => by rw [stripe_Pick.l0]) ?_
  simp only [if_pos (show (out.length : Int) < (m : Int) by omega)]
  refine pick_l1 L hL hx (m : Int) tk out ht _ L.length 0 (-1) (by omega) (by omega) (by omega) ?_
  rintro b' rfl
  show Ev (fun k => if bs L tk < 0 then _ else _) _
  by_cases hb : bs L tk < 0
  ·have e : pk L (d + 1) tk out = none := by rw [pk, if_pos hb]
   rw [e]
   refine ev_pos hb (ev_const _)
  ·obtain ⟨b, eb, hb1, hb2, _⟩ := bs_spec hb
   have e : pk L (d + 1) tk out = pk L d (tk.set b (rd tk b + 1)) (out ++ [rd (rd_L1 L b) (rd tk b)]) := by rw [pk, if_neg hb, eb, Int.toNat_natCast]
   rw [e]
   refine ev_neg hb ?_
   show Ev (fun k => if 0 ≤ bs L tk then _ else _) _
   rw [show bst L tk L.length 0 (-1) = (b : Int) from eb, eb]
   have h1 := ht.2 b hb1
   have hlen : (rd_L1 L b).length ≤ 64 := by rw [rdL_nat hb1]; exact hx _ (List.getElem_mem _)
   simp only [if_pos (show (0 : Int) ≤ (b : Int) by omega), if_pos (show (b : Int) < (L.length : Int) by omega), ht.1, if_pos h1.1, if_pos hb2, if_pos (show out.length < 17592186044416 by omega), Int.toNat_natCast, w64 (x := rd tk b + 1) (by omega) (by omega)]
   exact ih _ _ (by simp; omega) (Tk_step ht hb1 hb2)
theorem Tk_zero (L : List (List Int)) : Tk L (List.replicate L.length 0) := by
 refine ⟨by simp, fun c hc => ?_⟩
 rw [rd_nat (by simpa using hc)]
 simp
theorem pick_ok {C D B P : Int} (hG : Gd C D B P) (l : List Int) (hl : l.length ≤ 40) (m : Nat) (hm : m ≤ 1000) :
  Ev (fun k => stripe_Pick.f k C D B P l (m : Int)) (pkr (pk (Rs C (C * D * B) l) m (List.replicate C.toNat 0) [])) := by
 have g := hG
 unfold Gd at g
 have hlen := Rs_len C (C * D * B) l
 unfold stripe_Pick.f
 refine ev_bind (lanes_ok hG l hl) ?_
 simp only [if_neg (show ¬ ((Rs C (C * D * B) l).length : Int) = 0 by rw [hlen]; omega)]
 refine ev_succ (fun k => by rw [stripe_Pick.j0]) ?_
 rw [show decide ((m : Int) < 0) = false by rw [decide_eq_false_iff_not]; omega]
 simp only [Bool.false_eq_true, if_false, hlen, if_pos (show (0 : Int) ≤ (C.toNat : Int) by omega), Int.toNat_natCast, if_pos (show C.toNat ≤ 35184372088832 by omega)]
 have := pick_l0 (Rs C (C * D * B) l) (by rw [hlen]; omega) (Rs_le hG l) m hm m (List.replicate C.toNat 0) [] (by simp) (by rw [← hlen]; exact Tk_zero _)
 exact this
end Go.Proofs.Yteedjokkfiglhaa.St
