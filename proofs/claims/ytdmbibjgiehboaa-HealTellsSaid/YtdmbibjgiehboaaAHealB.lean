-- Cut by a program of this session (wip/pr/pack.py) to what one claim needs.
import Derived.Test.YtdmbibjgiehboaaAHeal
namespace Go.Proofs.Ytdmbibjgiehboaa.Hl
open Go.RowKit Go.Proofs.YtdmbibjgiehboaaW.PrintWords Go.Proofs.YtdmbibjgiehboaaW.PrintLast Go.Proofs.YtdmbibjgiehboaaW.PrintMore Go.Proofs.Ytdmbibjgiehboaa.P Go.Proofs.Ytdmbibjgiehboaa.X Go.Proofs.Ytdmbibjgiehboaa.Gen
set_option linter.unusedVariables false
set_option linter.unusedSimpArgs false
set_option linter.unusedSectionVars false
theorem keepsB_pos {b : Int} {cs : List Pg} {out : List Int} {f : Pg} (h : f.f0 = b) : keepsB b cs out f = !cs.any (standsB f out) := by unfold keepsB neededB; rw [decide_eq_true h, Bool.true_and]
theorem keepsB_neg {b : Int} {cs : List Pg} {out : List Int} {f : Pg} (h : ¬ f.f0 = b) : keepsB b cs out f = false := by unfold keepsB; rw [decide_eq_false h, Bool.false_and]
section
variable (l cs : List Pg) (a1 : Int) (hcs : cs.length ≤ 1000) (hl : l.length ≤ 1000)
include hcs
theorem go_l3 (out : List Int) (hout : out.length ≤ 1000) (b : Int) (x14 x15 : Bool) (j : Nat) (f : Pg) (hfb : f.f0 = b) (r : List Int) : ∀ (d i : Nat) (x20 : Bool), i + d = cs.length →
  Ev (fun k => if x15 = true then almshouseref17_Go.l2 k l a1 cs out b x14 (x20 || (cs.drop i).any (standsB f out)) cs (cs.length : Int) (wrap64 ((j : Int) + 1)) else almshouseref17_Go.l2 k l a1 cs out b x14 false cs (cs.length : Int) (wrap64 ((j : Int) + 1))) r →
  Ev (fun k => almshouseref17_Go.l3 k l a1 cs out b x14 x15 x20 cs (cs.length : Int) (j : Int) cs (cs.length : Int) (i : Int) f.f0 f.f1 f.f2 f.f3.f0 f.f3.f1 f.f3.f2 f.f3.f3 f.f3.f4 f.f3.f5 f.f4) r := by
 intro d
 induction d with
 | zero =>
  intro i x20 hi H
  obtain rfl : i = cs.length := by omega
  refine ev_succ (fun k => by rw [almshouseref17_Go.l3]) ?_
  simp only [Int.lt_irrefl, if_false]
  simpa only [List.drop_length, List.any_nil, Bool.or_false] using H
 | succ d ih =>
  intro i x20 hi H
  have hlt : i < cs.length := by omega
  rw [List.drop_eq_getElem_cons hlt, List.any_cons] at H
  refine ev_succ (fun k => by rw [almshouseref17_Go.l3]) ?_
  simp only [if_pos (show (i : Int) < (cs.length : Int) by omega), if_pos (show (0 : Int) ≤ (i : Int) by omega), rdF hlt, nx (j := i) (by omega)]
  cases x20 with
  | true =>
   simp only [if_true]
   refine ih (i + 1) true (by omega) ?_
   simpa only [Bool.true_or] using H
  | false =>
   simp only [Bool.false_eq_true, if_false]
   rw [Bool.false_or] at H
   unfold standsB at H
   by_cases h1 : (cs[i]).f0 = b
   ·refine ev_pos h1 ?_
    refine ih (i + 1) false (by omega) ?_
    rw [decide_eq_false (show ¬ (cs[i]).f0 ≠ f.f0 by rw [hfb]; exact fun h => h h1), Bool.false_and, Bool.false_or] at H
    rw [Bool.false_or]; exact H
   ·refine ev_neg h1 ?_
    rw [decide_eq_true (show (cs[i]).f0 ≠ f.f0 by rw [hfb]; exact h1), Bool.true_and] at H
    refine ev_bind (has_ok out (cs[i]).f0 (by omega)) ?_
    cases h2 : decide ((cs[i]).f0 ∈ out) with
    | true =>
     simp only [if_true]
     rw [h2, Bool.not_true, Bool.and_false, Bool.and_false, Bool.false_or] at H
     refine ih (i + 1) false (by omega) ?_
     rw [Bool.false_or]; exact H
    | false =>
     simp only [Bool.false_eq_true, if_false]
     rw [h2, Bool.not_false, Bool.and_true] at H
     by_cases h3 : (cs[i]).f3.f2 = f.f3.f2
     ·refine ev_pos h3 ?_
      rw [decide_eq_true h3, Bool.true_and] at H
      exact ih (i + 1) _ (by omega) H
     ·refine ev_neg h3 ?_
      rw [decide_eq_false h3, Bool.false_and, Bool.false_or] at H
      refine ih (i + 1) false (by omega) ?_
      rw [Bool.false_or]; exact H
theorem go_l2 (out : List Int) (hout : out.length ≤ 1000) (b : Int) (x14 : Bool) (r : List Int) : ∀ (d j : Nat) (x15 : Bool), j + d = cs.length →
  Ev (fun k => if x14 = true then (if (x15 && (cs.drop j).all fun f => !keepsB b cs out f) = true then almshouseref17_Go.l0 k l a1 cs (out ++ [b]) (wrap64 (b + 1)) else almshouseref17_Go.l0 k l a1 cs out (wrap64 (b + 1))) else almshouseref17_Go.l0 k l a1 cs out (wrap64 (b + 1))) r →
  Ev (fun k => almshouseref17_Go.l2 k l a1 cs out b x14 x15 cs (cs.length : Int) (j : Int)) r := by
 intro d
 induction d with
 | zero =>
  intro j x15 hj H
  obtain rfl : j = cs.length := by omega
  refine ev_succ (fun k => by rw [almshouseref17_Go.l2]) ?_
  simp only [Int.lt_irrefl, if_false, if_pos (show out.length < 17592186044416 by omega)]
  simpa only [List.drop_length, List.all_nil, Bool.and_true] using H
 | succ d ih =>
  intro j x15 hj H
  have hlt : j < cs.length := by omega
  rw [List.drop_eq_getElem_cons hlt, List.all_cons] at H
  refine ev_succ (fun k => by rw [almshouseref17_Go.l2]) ?_
  simp only [if_pos (show (j : Int) < (cs.length : Int) by omega), if_pos (show (0 : Int) ≤ (j : Int) by omega), rdF hlt]
  by_cases h1 : (cs[j]).f0 = b
  ·refine ev_pos h1 ?_
   rw [keepsB_pos h1, Bool.not_not] at H
   refine go_l3 l cs a1 hcs out hout b x14 x15 j cs[j] h1 r cs.length 0 false (by omega) ?_
   rw [List.drop_zero, Bool.false_or, nx (j := j) (by omega)]
   cases x15 with
   | true =>
    simp only [if_true]
    refine ih (j + 1) _ (by omega) ?_
    simpa only [Bool.true_and] using H
   | false =>
    simp only [Bool.false_eq_true, if_false]
    refine ih (j + 1) _ (by omega) ?_
    simpa only [Bool.false_and] using H
  ·refine ev_neg h1 ?_
   rw [keepsB_neg h1, Bool.not_false, Bool.true_and] at H
   rw [nx (j := j) (by omega)]
   exact ih (j + 1) x15 (by omega) H
include hl
theorem go_l1 (out : List Int) (b : Int) (r : List Int) : ∀ (d i : Nat) (x14 : Bool), i + d = l.length →
  Ev (fun k => almshouseref17_Go.l2 k l a1 cs out b (x14 || (l.drop i).any fun f => decide (f.f0 = b)) true cs (cs.length : Int) 0) r →
  Ev (fun k => almshouseref17_Go.l1 k l a1 cs out b x14 true l (l.length : Int) (i : Int)) r := by
 intro d
 induction d with
 | zero =>
  intro i x14 hi H
  obtain rfl : i = l.length := by omega
  refine ev_succ (fun k => by rw [almshouseref17_Go.l1]) ?_
  simp only [Int.lt_irrefl, if_false]
  simpa only [List.drop_length, List.any_nil, Bool.or_false] using H
 | succ d ih =>
  intro i x14 hi H
  have hlt : i < l.length := by omega
  rw [List.drop_eq_getElem_cons hlt, List.any_cons] at H
  refine ev_succ (fun k => by rw [almshouseref17_Go.l1]) ?_
  simp only [if_pos (show (i : Int) < (l.length : Int) by omega), if_pos (show (0 : Int) ≤ (i : Int) by omega), rdF hlt, nx (j := i) (by omega)]
  cases x14 with
  | true =>
   simp only [if_true]
   refine ih (i + 1) true (by omega) ?_
   simpa only [Bool.true_or] using H
  | false =>
   simp only [Bool.false_eq_true, if_false]
   refine ih (i + 1) _ (by omega) ?_
   rw [Bool.false_or] at H
   have e : ((l[i]).f0 == b) = decide ((l[i]).f0 = b) := rfl
   rw [e]; exact H
end
theorem go_l0 (l cs : List Pg) (hcs : cs.length ≤ 1000) (hl : l.length ≤ 1000) (N : Nat) (hN : N ≤ 64) : ∀ (d b : Nat) (out : List Int), b + d = N → out.length ≤ b →
  Ev (fun k => almshouseref17_Go.l0 k l (N : Int) cs out (b : Int)) (goneL (hasKey (mapOf (N : Int) l)) cs d b out) := by
 intro d
 induction d with
 | zero =>
  intro b out hb ho
  refine ev_succ (fun k => by rw [almshouseref17_Go.l0]) ?_
  simp only [if_neg (show ¬ (b : Int) < (N : Int) by omega), goneL]
  exact ev_const _
 | succ d ih =>
  intro b out hb ho
  refine ev_succ (fun k => by rw [almshouseref17_Go.l0]) ?_
  simp only [if_pos (show (b : Int) < (N : Int) by omega)]
  refine go_l1 l cs (N : Int) hcs hl out (b : Int) _ l.length 0 false (by omega) ?_
  rw [List.drop_zero, Bool.false_or]
  refine go_l2 l cs (N : Int) hcs out (by omega) (b : Int) _ _ cs.length 0 true (by omega) ?_
  rw [List.drop_zero, Bool.true_and, goneL, mapOf_has, nx (j := b) (by omega)]
  have e1 : (l.any fun f => inB (N : Int) f && decide (f.f0 = (b : Int))) = l.any fun f => decide (f.f0 = (b : Int)) := by
   congr 1
   funext f
   by_cases h : f.f0 = (b : Int)
   ·rw [decide_eq_true h, Bool.and_true]; unfold inB; exact decide_eq_true (by omega)
   ·rw [decide_eq_false h, Bool.and_false]
  have e2 : (cs.all fun f => !keepsB (b : Int) cs out f) = !cs.any (keepsB (b : Int) cs out) := by
   rw [List.not_any_eq_all_not]
  rw [e1, e2]
  have i1 := ih (b + 1) (out ++ [(b : Int)]) (by omega) (by simp; omega)
  have i2 := ih (b + 1) out (by omega) (by omega)
  cases l.any fun f => decide (f.f0 = (b : Int)) with
  | true =>
   simp only [if_true, Bool.true_and]
   cases !cs.any (keepsB (b : Int) cs out) with
   | true => simpa only [if_true] using i1
   | false => simpa only [Bool.false_eq_true, if_false] using i2
  | false => simpa only [Bool.false_eq_true, if_false, Bool.false_and] using i2
theorem countsL_le (a1 a2 a3 a4 : Int) (l : List Pg) : (countsL a1 a2 a3 a4 l).length ≤ l.length := List.length_filter_le _ _
theorem Go_ok (l : List Pg) (a1 a2 a3 a4 : Int) (hl : l.length ≤ 1000) (h1 : a1 ≤ 64) : Ev (fun k => almshouseref17_Go.f k l a1 a2 a3 a4) (goneOf l a1 a2 a3 a4) := by
 unfold almshouseref17_Go.f goneOf
 refine ev_bind (counting_ok l a1 a2 a3 a4 hl) ?_
 have hc := countsL_le a1 a2 a3 a4 l
 by_cases h0 : 0 ≤ a1
 ·obtain ⟨N, rfl⟩ : ∃ N : Nat, a1 = N := ⟨a1.toNat, by omega⟩
  have := go_l0 l (countsL (N : Int) a2 a3 a4 l) (by omega) hl N (by omega) N 0 [] (by omega) (by simp)
  rw [show (max (N : Int) 0).toNat = N by omega]
  exact this
 ·rw [show (max a1 0).toNat = 0 by omega]
  refine ev_succ (fun k => by rw [almshouseref17_Go.l0]) ?_
  simp only [if_neg (show ¬ (0 : Int) < a1 by omega), goneL]
  exact ev_const _
theorem Seq_ok (l : List Pg) (a1 a2 a3 : Int) (hl : l.length ≤ 1000) : Ev (fun k => almshouseref17_Seq.f k l a1 a2 a3) (seqL (mineL a1 a2 a3 l)) := by
 unfold almshouseref17_Seq.f
 have key : ∀ (d i : Nat) (n : Int), i + d = l.length → Ev (fun k => almshouseref17_Seq.l0 k a1 a2 a3 n l (l.length : Int) (i : Int)) ((mineL a1 a2 a3 (l.drop i)).foldl seqStep n) := by
  intro d
  induction d with
  | zero =>
   intro i n hi
   obtain rfl : i = l.length := by omega
   refine ev_succ (fun k => by rw [almshouseref17_Seq.l0]) ?_
   simp only [Int.lt_irrefl, if_false, List.drop_length, mineL, List.filter_nil, List.foldl_nil]
   exact ev_const _
  | succ d ih =>
   intro i n hi
   have hlt : i < l.length := by omega
   have i0 := ih (i + 1) n (by omega)
   refine ev_succ (fun k => by rw [almshouseref17_Seq.l0]) ?_
   rw [List.drop_eq_getElem_cons hlt]
   unfold mineL at i0 ⊢
   rw [List.filter_cons]
   simp only [if_pos (show (i : Int) < (l.length : Int) by omega), if_pos (show (0 : Int) ≤ (i : Int) by omega), rdF hlt, nx (j := i) (by omega)]
   by_cases h1 : (l[i]).f0 ≥ 0
   ·refine ev_pos h1 ?_
    by_cases h2 : (l[i]).f0 < a1
    ·refine ev_pos h2 ?_
     have hin : inB a1 l[i] = true := decide_eq_true ⟨h1, h2⟩
     refine ev_bind (ev_of (rmine_f a2 a3 l[i])) ?_
     rw [hin, Bool.true_and]
     cases hm : mineB a2 a3 l[i] with
     | true =>
      simp only [if_true, List.foldl_cons]
      have i1 := ih (i + 1) (seqStep n l[i]) (by omega)
      unfold mineL at i1
      unfold seqStep at i1 ⊢
      by_cases h3 : wrap64 ((l[i]).f3.f3 + 1) > n
      ·refine ev_pos h3 ?_
       rw [show max n (wrap64 ((l[i]).f3.f3 + 1)) = wrap64 ((l[i]).f3.f3 + 1) by omega] at i1 ⊢
       exact i1
      ·refine ev_neg h3 ?_
       rw [show max n (wrap64 ((l[i]).f3.f3 + 1)) = n by omega] at i1 ⊢
       exact i1
     | false =>
      simp only [Bool.false_eq_true, if_false]
      exact i0
    ·refine ev_neg h2 ?_
     have hin : inB a1 l[i] = false := decide_eq_false (fun h => h2 h.2)
     rw [hin, Bool.false_and]
     exact i0
   ·refine ev_neg h1 ?_
    have hin : inB a1 l[i] = false := decide_eq_false (fun h => h1 h.1)
    rw [hin, Bool.false_and]
    exact i0
 have := key l.length 0 0 (by omega)
 rw [List.drop_zero] at this
 exact this
end Go.Proofs.Ytdmbibjgiehboaa.Hl
