-- Cut by a program of this session (wip/pr/pack.py) to what one claim needs.
import Derived.Test.YteedjokkfiglhaaBStripeC
namespace Go.Proofs.Yteedjokkfiglhaa.St
open Go.RowKit Go.Proofs.YteedjokkfiglhaaW.PrintWords Go.Proofs.YteedjokkfiglhaaW.PrintLast Go.Proofs.YteedjokkfiglhaaW.PrintMore Go.Proofs.Yteedjokkfiglhaa.P Go.Proofs.Yteedjokkfiglhaa.X Go.Proofs.Yteedjokkfiglhaa.Gen
set_option linter.unusedVariables false
set_option linter.unusedSimpArgs false
theorem sort_two : ([2, 5] : List Int).mergeSort (fun x y => decide (x ≤ y)) = [2, 5] :=
 sorted_perm (sort_sorted _) (by decide) (List.mergeSort_perm _ _)
theorem fixed_ok : Ev (fun k => almshouselaw37_fixed.f k) true := by
 have hG : Gd 2 1 4 4 := by unfold Gd; decide
 have hp := pick_ok hG [2, 4, 6, 5] (by decide) 2 (by decide)
 have e : pk (Rs 2 (2 * 1 * 4) [2, 4, 6, 5]) 2 (List.replicate (2 : Int).toNat 0) [] = some ([1, 1], [2, 5]) := by decide
 rw [e] at hp
 have hp' : Ev (fun k => stripe_Pick.f k 2 1 4 4 [2, 4, 6, 5] 2) ([2, 5], true) := by
  rw [show (([2, 5] : List Int), true) = pkr (some ([1, 1], [2, 5])) by rw [pkr, sort_two]]
  exact hp
 have ho := order_ok hG [2, 3, 4] (by decide)
 have eo : Od 2 (2 * 1 * 4) [2, 3, 4] = [2, 3, 4] := by decide
 rw [eo] at ho
 have h1 := even_ok hG [2, 5] (by decide)
 rw [show decide (spread (Ld 2 (2 * 1 * 4) [2, 5]) ≤ 1) = true by decide] at h1
 have h2 := even_ok hG [2, 4] (by decide)
 rw [show decide (spread (Ld 2 (2 * 1 * 4) [2, 4]) ≤ 1) = false by decide] at h2
 have h3 := loads_ok hG [] (by decide)
 unfold almshouselaw37_fixed.f
 refine ev_bind hp' ?_
 refine ev_bind ho ?_
 simp only [if_true, List.length_cons, List.length_nil]
 rw [show rd ([2, 5] : List Int) 0 = 2 from rfl, show rd ([2, 5] : List Int) 1 = 5 from rfl, show rd ([2, 3, 4] : List Int) 1 = 3 from rfl]
 simp only [if_true, show ((0 + 1 + 1 : Nat) : Int) = 2 from rfl, show ((0 + 1 + 1 + 1 : Nat) : Int) = 3 from rfl, if_pos (show (0 : Int) < 2 by decide), if_pos (show (1 : Int) < 2 by decide), if_pos (show (1 : Int) < 3 by decide)]
 refine ev_bind h1 ?_
 simp only [if_true]
 refine ev_bind h2 ?_
 simp only [Bool.false_eq_true, if_false]
 refine ev_bind h3 ?_
 rw [show ((Ld 2 (2 * 1 * 4) []).length : Int) == 2 by decide]
 exact ev_const _
section
variable {C D B P : Int} (hG : ¬ Gd C D B P)
include hG
end
def sm (f : Nat → Int) : Nat → Int
 | 0 => 0
 | n + 1 => sm f n + f n
theorem sm_le {f g : Nat → Int} : ∀ n, (∀ i, i < n → f i ≤ g i) → sm f n ≤ sm g n
 | 0, _ => Int.le_refl _
 | n + 1, h => by
  have := sm_le n (fun i hi => h i (by omega))
  have := h n (by omega)
  show sm f n + f n ≤ sm g n + g n
  omega
theorem sm_lt {f g : Nat → Int} : ∀ n, (∀ i, i < n → f i ≤ g i) → (∃ i, i < n ∧ f i < g i) → sm f n < sm g n
 | 0, _, h => by obtain ⟨i, hi, _⟩ := h; omega
 | n + 1, h, hx => by
  obtain ⟨i, hi, hfi⟩ := hx
  have h1 := sm_le n (fun i hi => h i (by omega))
  have h2 := h n (by omega)
  show sm f n + f n < sm g n + g n
  by_cases e : i = n
  ·subst e; omega
  ·have := sm_lt n (fun i hi => h i (by omega)) ⟨i, by omega, hfi⟩
   omega
theorem sm_congr {f g : Nat → Int} (n : Nat) (h : ∀ i, i < n → f i = g i) : sm f n = sm g n :=
 Int.le_antisymm (sm_le n (fun i hi => by rw [h i hi]; exact Int.le_refl _)) (sm_le n (fun i hi => by rw [h i hi]; exact Int.le_refl _))
theorem sm_upd {f g : Nat → Int} : ∀ (n b : Nat), b < n → (∀ i, i < n → g i = if i = b then f i + 1 else f i) → sm g n = sm f n + 1
 | 0, b, hb, _ => by omega
 | n + 1, b, hb, h => by
  show sm g n + g n = sm f n + f n + 1
  have hn := h n (by omega)
  by_cases e : n = b
  ·subst e
   rw [if_pos rfl] at hn
   rw [sm_congr n (fun i hi => by rw [h i (by omega), if_neg (by omega)] : ∀ i, i < n → g i = f i), hn]; omega
  ·rw [if_neg e] at hn
   rw [sm_upd n b (by omega) (fun i hi => h i (by omega)), hn]; omega
theorem sm_zero {f : Nat → Int} (n : Nat) (h : ∀ i, i < n → f i = 0) : sm f n = 0 := by
 induction n with
 | zero => rfl
 | succ n ih => show sm f n + f n = 0; rw [ih (fun i hi => h i (by omega)), h n (by omega)]; rfl
theorem sm_bd {f : Nat → Int} {b : Int} (n : Nat) (h : ∀ i, i < n → -1 ≤ f i ∧ f i ≤ 64) : -(n : Int) ≤ sm f n ∧ sm f n ≤ 64 * (n : Int) := by
 induction n with
 | zero => exact ⟨Int.le_refl _, Int.le_refl _⟩
 | succ n ih =>
  have h1 := ih (fun i hi => h i (by omega))
  have h2 := h n (by omega)
  show _ ≤ sm f n + f n ∧ sm f n + f n ≤ _
  omega
def Bal (L : List (List Int)) (tk : List Int) : Prop := ∀ c c' : Nat, c < L.length → c' < L.length → rd tk c < ((rd_L1 L c).length : Int) → rd tk c' ≤ rd tk c + 1
theorem pk_law (L : List (List Int)) : ∀ (d : Nat) (tk out : List Int), Tk L tk → Bal L tk →
  (pk L d tk out = none → sm (fun c => ((rd_L1 L c).length : Int)) L.length < sm (fun c => rd tk c) L.length + d) ∧
  (∀ tk' out', pk L d tk out = some (tk', out') → sm (fun c => rd tk c) L.length + d ≤ sm (fun c => ((rd_L1 L c).length : Int)) L.length ∧ sm (fun c => rd tk' c) L.length = sm (fun c => rd tk c) L.length + d ∧ Tk L tk' ∧ Bal L tk' ∧ out'.length = out.length + d) := by
 intro d
 induction d with
 | zero =>
  intro tk out ht hb
  refine ⟨fun h => (by rw [pk] at h; cases h), fun tk' out' h => ?_⟩
  rw [pk] at h
  injection h with h
  injection h with h1 h2
  subst h1; subst h2
  have := sm_le (f := fun c => rd tk c) (g := fun c => ((rd_L1 L c).length : Int)) L.length (fun c hc => (ht.2 c hc).2)
  exact ⟨by omega, by omega, ht, hb, by omega⟩
 | succ d ih =>
  intro tk out ht hb
  by_cases h : bs L tk < 0
  ·have e : pk L (d + 1) tk out = none := by rw [pk, if_pos h]
   rw [e]
   refine ⟨fun _ => ?_, fun _ _ h => (by cases h)⟩
   have hn := bs_none h
   have := sm_le (f := fun c => ((rd_L1 L c).length : Int)) (g := fun c => rd tk c) L.length (fun c hc => by have := hn c hc; omega)
   omega
  ·obtain ⟨b, eb, hb1, hb2, hb3⟩ := bs_spec h
   have e : pk L (d + 1) tk out = pk L d (tk.set b (rd tk b + 1)) (out ++ [rd (rd_L1 L b) (rd tk b)]) := by rw [pk, if_neg h, eb, Int.toNat_natCast]
   rw [e]
   have hset : ∀ c : Nat, rd (tk.set b (rd tk b + 1)) c = if c = b then rd tk c + 1 else rd tk c := by
    intro c
    have := rd_set (xs := tk) (i := (b : Int)) (j := (c : Int)) (v := rd tk b + 1) (by omega) (by rw [ht.1]; omega) (by omega)
    rw [Int.toNat_natCast] at this
    rw [this]
    by_cases ec : c = b
    ·subst ec; rw [if_pos rfl, if_pos rfl]
    ·rw [if_neg ec, if_neg (by omega)]
   have hsum : sm (fun c => rd (tk.set b (rd tk b + 1)) c) L.length = sm (fun c => rd tk c) L.length + 1 := sm_upd L.length b hb1 (fun i _ => hset i)
   have hbal : Bal L (tk.set b (rd tk b + 1)) := by
    intro c c' hc hc' hr
    rw [hset c, hset c'] at *
    by_cases ec : c = b
    ·subst ec
     rw [if_pos rfl] at *
     by_cases ec' : c' = c
     ·subst ec'; rw [if_pos rfl]; omega
     ·rw [if_neg ec']
      have := hb c c' hc hc' hb2
      omega
    ·rw [if_neg ec] at *
     by_cases ec' : c' = b
     ·subst ec'; rw [if_pos rfl]
      have := hb3 c hc hr
      omega
     ·rw [if_neg ec']
      exact hb c c' hc hc' hr
   obtain ⟨i1, i2⟩ := ih (tk.set b (rd tk b + 1)) (out ++ [rd (rd_L1 L b) (rd tk b)]) (Tk_step ht hb1 hb2) hbal
   rw [hsum] at i1 i2
   refine ⟨fun h => by have := i1 h; omega, fun tk' out' h => ?_⟩
   obtain ⟨j1, j2, j3, j4, j5⟩ := i2 tk' out' h
   refine ⟨by omega, by omega, j3, j4, ?_⟩
   rw [j5, List.length_append, List.length_singleton]; omega
theorem pk_loads {C D B P : Int} (hG : Gd C D B P) (l : List Int) : ∀ (d : Nat) (out : List Int), out.length + d ≤ 1000 → Tk (Rs C (C * D * B) l) (Ld C (C * D * B) out) →
  ∀ tk' out', pk (Rs C (C * D * B) l) d (Ld C (C * D * B) out) out = some (tk', out') → tk' = Ld C (C * D * B) out' := by
 intro d
 have hlen := Rs_len C (C * D * B) l
 induction d with
 | zero =>
  intro out ho ht tk' out' h
  rw [pk] at h
  injection h with h
  injection h with h1 h2
  subst h1; subst h2; rfl
 | succ d ih =>
  intro out ho ht tk' out' h
  by_cases hb : bs (Rs C (C * D * B) l) (Ld C (C * D * B) out) < 0
  ·rw [pk, if_pos hb] at h; cases h
  ·obtain ⟨b, eb, hb1, hb2, _⟩ := bs_spec hb
   rw [hlen] at hb1
   rw [rd_Rs hb1] at hb2
   rw [pk, if_neg hb, eb, Int.toNat_natCast, rd_Rs hb1, ← Ld_pick hG l out (by omega) hb1 hb2] at h
   refine ih _ (by rw [List.length_append, List.length_singleton]; omega) ?_ tk' out' h
   rw [Ld_pick hG l out (by omega) hb1 hb2]
   exact Tk_step ht (by rw [hlen]; exact hb1) (by rw [rd_Rs hb1]; exact hb2)
theorem Ld_perm {C N : Int} {a b : List Int} (h : a.Perm b) : Ld C N a = Ld C N b := by
 unfold Ld
 refine List.map_congr_left (fun c _ => ?_)
 unfold Ln
 rw [(h.filter _).length_eq]
theorem even_l0 {C D B P : Int} (hG : Gd C D B P) (l : List Int) (hl : l.length ≤ 40) (m : Int) (o : List Int) (ok res : Bool)
  (H : Ev (fun k => if (ok != (decide ((wrap64 m) ≤ sm (fun c => ((R C (C * D * B) l c).length : Int)) C.toNat))) = true then (some false) else (if ok = true then ((almshouseref37_Loads.f k C D B P o).bind fun t301 => (almshouselaw37_StripeEven.l1 k l m o 0 t301 (t301.length : Int) 0 C D B P)) else (some ((o.length : Int) == 0)))) res) :
  ∀ (d c : Nat), c + d = C.toNat → Ev (fun k => almshouselaw37_StripeEven.l0 k l m o ok (sm (fun c => ((R C (C * D * B) l c).length : Int)) c) 0 C (c : Int) C D B P) res := by
 have g := hG
 unfold Gd at g
 intro d
 induction d with
 | zero =>
  intro c hc
  obtain rfl : c = C.toNat := by omega
  refine ev_succ (fun k => by rw [almshouselaw37_StripeEven.l0]) ?_
  simp only [if_neg (show ¬ (C.toNat : Int) < C by omega)]
  exact H
 | succ d ih =>
  intro c hc
  refine ev_succ (fun k => by rw [almshouselaw37_StripeEven.l0]) ?_
  simp only [if_pos (show (c : Int) < C by omega), nx (j := c) (by omega)]
  refine ev_bind (lane_ok hG l (by omega) c (by omega)) ?_
  have hb := sm_bd (b := 0) (f := fun c => ((R C (C * D * B) l c).length : Int)) c (fun i _ => by have := R_len C (C * D * B) l i; omega)
  have h1 := R_len C (C * D * B) l c
  rw [w64 (x := _ + ((R C (C * D * B) l c).length : Int)) (by omega) (by omega)]
  exact ih (c + 1) (by omega)
theorem even_l1 (l : List Int) (m : Int) (o : List Int) (C D B P : Int) (r : List Int) (hr : r.length ≤ 1000) (res : Bool)
  (H : Ev (fun k => almshouselaw37_StripeEven.l2 k l m o (r.foldl max 0) 0 C 0 C D B P) res) :
  ∀ (d i : Nat) (hi : Int), i + d = r.length → (r.drop i).foldl max hi = r.foldl max 0 → Ev (fun k => almshouselaw37_StripeEven.l1 k l m o hi r (r.length : Int) (i : Int) C D B P) res := by
 intro d
 induction d with
 | zero =>
  intro i hi h1 h2
  obtain rfl : i = r.length := by omega
  rw [List.drop_length] at h2
  refine ev_succ (fun k => by rw [almshouselaw37_StripeEven.l1]) ?_
  simp only [Int.lt_irrefl, if_false]
  rw [show hi = r.foldl max 0 from h2]
  exact H
 | succ d ih =>
  intro i hi h1 h2
  have hlt : i < r.length := by omega
  refine ev_succ (fun k => by rw [almshouselaw37_StripeEven.l1]) ?_
  simp only [if_pos (show (i : Int) < (r.length : Int) by omega), if_pos (show (0 : Int) ≤ (i : Int) by omega), rd_nat hlt, nx (j := i) (by omega), mx_max]
  rw [List.drop_eq_getElem_cons hlt, List.foldl_cons] at h2
  exact ih (i + 1) _ (by omega) h2
theorem even_l2 {C D B P : Int} (hG : Gd C D B P) (l : List Int) (hl : l.length ≤ 40) (m : Int) (o : List Int) (most : Int) (h0 : 0 ≤ most) (h1 : most ≤ 1000) (res : Bool)
  (H : (if (o.length : Int) = (wrap64 m) then (if most = 0 then (some true) else (some (decide (sm (fun c => min ((R C (C * D * B) l c).length : Int) (most - 1)) C.toNat < (wrap64 m))))) else (some false)) = some res) :
  ∀ (d c : Nat), c + d = C.toNat → Ev (fun k => almshouselaw37_StripeEven.l2 k l m o most (sm (fun c => min ((R C (C * D * B) l c).length : Int) (most - 1)) c) C (c : Int) C D B P) res := by
 have g := hG
 unfold Gd at g
 intro d
 induction d with
 | zero =>
  intro c hc
  obtain rfl : c = C.toNat := by omega
  refine ev_succ (fun k => by rw [almshouselaw37_StripeEven.l2]) ?_
  simp only [if_neg (show ¬ (C.toNat : Int) < C by omega)]
  exact ev_of H
 | succ d ih =>
  intro c hc
  refine ev_succ (fun k => by rw [almshouselaw37_StripeEven.l2]) ?_
  simp only [if_pos (show (c : Int) < C by omega), nx (j := c) (by omega), mn_min, w64 (x := most - 1) (by omega) (by omega)]
  refine ev_bind (lane_ok hG l (by omega) c (by omega)) ?_
  have hb := sm_bd (b := 0) (f := fun c => min ((R C (C * D * B) l c).length : Int) (most - 1)) c (fun i _ => by have := R_len C (C * D * B) l i; omega)
  have h1 := R_len C (C * D * B) l c
  rw [w64 (x := _ + min ((R C (C * D * B) l c).length : Int) (most - 1)) (by omega) (by omega)]
  exact ih (c + 1) (by omega)
theorem StripeEven_ev (C D B P : Int) (l : List Int) (m : Int) (hm0 : 0 ≤ m) (hm1 : m ≤ 255) : Ev (fun k => almshouselaw37_StripeEven.f k C D B P l m) true := by
 unfold almshouselaw37_StripeEven.f
 refine ev_bind fixed_ok ?_
 simp only [if_true]
 by_cases h40 : (l.length : Int) > 40
 ·simp only [if_pos h40]
  refine ev_succ (fun k => by rw [almshouselaw37_StripeEven.j0]) ?_
  simp only [if_true]
  exact ev_const _
 ·simp only [if_neg h40]
  obtain ⟨e, he0, he⟩ := check_ref C D B P
  refine ev_bind he0 ?_
  by_cases hG : Gd C D B P
  ·have g := hG
   unfold Gd at g
   obtain rfl : e = 0 := he.2 hG
   obtain ⟨n, rfl⟩ := Int.eq_ofNat_of_zero_le hm0
   have hlen := Rs_len C (C * D * B) l
   refine ev_succ (fun k => by rw [almshouselaw37_StripeEven.j0]) ?_
   simp only [show ((0 : Int) != 0) = false from rfl, Bool.false_eq_true, if_false, w64 (x := (n : Int)) (by omega) (by omega)]
   refine ev_bind (pick_ok hG l (by omega) n (by omega)) ?_
   have hlaw := pk_law (Rs C (C * D * B) l) n (List.replicate C.toNat 0) [] (by rw [← hlen]; exact Tk_zero _) (by
    intro c c' hc hc' _
    have hz : ∀ c : Nat, c < C.toNat → rd (List.replicate C.toNat 0) c = 0 := fun c hc => by rw [rd_nat (by simpa using hc)]; simp
    rw [hz c (by rw [← hlen]; exact hc), hz c' (by rw [← hlen]; exact hc')]; omega)
   have hz0 : sm (fun c => rd (List.replicate C.toNat 0) c) (Rs C (C * D * B) l).length = 0 := sm_zero _ (fun c hc => by
    rw [rd_nat (by rw [hlen] at hc; simpa using hc)]; simp)
   have hrm : sm (fun c => ((rd_L1 (Rs C (C * D * B) l) c).length : Int)) (Rs C (C * D * B) l).length = sm (fun c => ((R C (C * D * B) l c).length : Int)) C.toNat := by
    rw [hlen]; exact sm_congr _ (fun c hc => by rw [rd_Rs hc])
   rw [hz0, hrm] at hlaw
   have hld := pk_loads hG l n [] (by simp; omega) (by rw [Ld_zero, ← hlen]; exact Tk_zero _)
   rw [Ld_zero] at hld
   cases hpk : pk (Rs C (C * D * B) l) n (List.replicate C.toNat 0) [] with
   | none =>
    have h1 := hlaw.1 hpk
    refine even_l0 hG l (by omega) (n : Int) [] false true ?_ C.toNat 0 (by omega)
    rw [w64 (x := (n : Int)) (by omega) (by omega)]
    rw [show decide ((n : Int) ≤ sm (fun c => ((R C (C * D * B) l c).length : Int)) C.toNat) = false by rw [decide_eq_false_iff_not]; omega]
    simp only [bne_self_eq_false, Bool.false_eq_true, if_false, List.length_nil]
    exact ev_const _
   | some p =>
    obtain ⟨tk, out⟩ := p
    obtain ⟨h1, h2, h3, h4, h5⟩ := hlaw.2 tk out hpk
    have h6 := hld tk out hpk
    show Ev (fun k => almshouselaw37_StripeEven.l0 k l (n : Int) (out.mergeSort fun x y => decide (x ≤ y)) true 0 0 C 0 C D B P) true
    have hol : (out.mergeSort fun x y => decide (x ≤ y)).length = n := by rw [List.length_mergeSort, h5]; simp
    refine even_l0 hG l (by omega) (n : Int) _ true true ?_ C.toNat 0 (by omega)
    rw [w64 (x := (n : Int)) (by omega) (by omega)]
    rw [show decide ((n : Int) ≤ sm (fun c => ((R C (C * D * B) l c).length : Int)) C.toNat) = true by rw [decide_eq_true_eq]; omega]
    simp only [bne_self_eq_false, Bool.false_eq_true, if_false, if_true]
    refine ev_bind (rloads_ok hG _ (by rw [hol]; omega)) ?_
    have hLd : Ld C (C * D * B) (out.mergeSort fun x y => decide (x ≤ y)) = tk := by rw [Ld_perm (List.mergeSort_perm _ _), h6]
    rw [hLd]
    have htl : tk.length = C.toNat := by rw [h3.1, hlen]
    have hmx := fold_max_le tk 0
    have hmem := fold_max_mem tk 0
    have hbd := Ld_bd C (C * D * B) out
    rw [← h6] at hbd
    have hmost : tk.foldl max 0 ≤ 1000 := by
     rcases hmem with h | h
     ·omega
     ·have := hbd _ h
      rw [h5] at this
      simp at this
      omega
    refine even_l1 l (n : Int) _ C D B P tk (by omega) true ?_ tk.length 0 0 (by omega) rfl
    refine even_l2 hG l (by omega) (n : Int) _ (tk.foldl max 0) hmx.1 hmost true ?_ C.toNat 0 (by omega)
    rw [w64 (x := (n : Int)) (by omega) (by omega), if_pos (by rw [hol])]
    by_cases hz : tk.foldl max 0 = 0
    ·rw [if_pos hz]
    ·rw [if_neg hz]
     congr 1
     rw [decide_eq_true_eq]
     rcases hmem with h | h
     ·exact absurd h hz
     ·obtain ⟨c0, hc0, e0⟩ := List.getElem_of_mem h
      have hc0' : rd tk (c0 : Int) = tk.foldl max 0 := by rw [rd_nat hc0, e0]
      have hlt : sm (fun c => min ((R C (C * D * B) l c).length : Int) (tk.foldl max 0 - 1)) C.toNat < sm (fun c => rd tk c) C.toNat := by
       refine sm_lt C.toNat (fun c hc => ?_) ⟨c0, by omega, by rw [hc0']; omega⟩
       show min ((R C (C * D * B) l c).length : Int) (tk.foldl max 0 - 1) ≤ rd tk c
       by_cases hroom : rd tk c < ((R C (C * D * B) l c).length : Int)
       ·have := h4 c c0 (by rw [hlen]; exact hc) (by rw [hlen]; omega) (by rw [rd_Rs hc]; exact hroom)
        omega
       ·omega
      rw [hlen] at h2
      omega
  ·refine ev_succ (fun k => by rw [almshouselaw37_StripeEven.j0]) ?_
   rw [show (e != 0) = true by rw [bne_iff_ne]; exact fun h => hG (he.1 h)]
   simp only [if_true]
   exact ev_const _
end Go.Proofs.Yteedjokkfiglhaa.St
