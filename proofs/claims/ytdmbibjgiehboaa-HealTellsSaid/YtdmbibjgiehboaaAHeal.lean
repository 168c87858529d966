-- Cut by a program of this session (wip/pr/pack.py) to what one claim needs.
import Derived.Test.YtdmbibjgiehboaaAXH
import Derived.Test.YtdmbibjgiehboaaAXV
import Derived.Test.YtdmbibjgiehboaaAGen
import Derived.Test.YtdmbibjgiehboaaAPx5
import Derived.Test.YtdmbibjgiehboaaAPx6
import Derived.Test.YtdmbibjgiehboaaAPx10
import Derived.Test.YtdmbibjgiehboaaAPx11
import Derived.Test.YtdmbibjgiehboaaAPx12
namespace Go.Proofs.Ytdmbibjgiehboaa.Hl
open Go.RowKit Go.Proofs.YtdmbibjgiehboaaW.PrintWords Go.Proofs.YtdmbibjgiehboaaW.PrintLast Go.Proofs.YtdmbibjgiehboaaW.PrintMore Go.Proofs.Ytdmbibjgiehboaa.P Go.Proofs.Ytdmbibjgiehboaa.X Go.Proofs.Ytdmbibjgiehboaa.Gen
set_option linter.unusedVariables false
set_option linter.unusedSimpArgs false
abbrev Pg := Go.Proofs.Ytdmbibjgiehboaa.X.Fd
theorem rdF {l : List Pg} {i : Nat} (h : i < l.length) : rd_T36 l (i : Int) = l[i] := by
 unfold rd_T36; rw [List.getD_eq_getElem?_getD, Int.toNat_natCast, List.getElem?_eq_getElem h]; rfl
theorem rdS {l : List Sp} {i : Nat} (h : i < l.length) : rd_T40 l (i : Int) = l[i] := by
 unfold rd_T40; rw [List.getD_eq_getElem?_getD, Int.toNat_natCast, List.getElem?_eq_getElem h]; rfl
def rightB (f : Pg) : Bool := (almshouseref08_Right.f f.f3.f0 f.f3.f1 f.f3.f2 f.f3.f3 f.f3.f4 f.f3.f5).getD false
theorem right_f (f : Pg) : almshouseref08_Right.f f.f3.f0 f.f3.f1 f.f3.f2 f.f3.f3 f.f3.f4 f.f3.f5 = some (rightB f) ∧ (rightB f = true → 0 ≤ f.f3.f2 ∧ f.f3.f2 ≤ 63 ∧ 0 ≤ f.f3.f3 ∧ f.f3.f3 < 2147483648) := by
 unfold rightB almshouseref08_Right.f
 repeat' split
 all_goals (refine ⟨rfl, fun h => ?_⟩; first | omega | (simp at h))
def okF (f : Pg) : Bool := f.f2 || rightB f
def mayB (l : List Pg) (a1 : Int) : Bool := l.all okF && (decide (l.length ≤ 60) && decide (a1 ≤ 64))
theorem nxw {j : Nat} (h : j ≤ 1599289640401) : wrap64 ((j : Int) + 1) = ((j + 1 : Nat) : Int) := by rw [w64 (by omega) (by omega)]; omega
theorem may_ok (l : List Pg) (a1 : Int) (hl : l.length ≤ 1599289640401) : Ev (fun k => almshouselaw17_may.f k l a1) (mayB l a1) := by
 unfold almshouselaw17_may.f
 have key : ∀ (d i : Nat), i + d = l.length → Ev (fun k => almshouselaw17_may.l0 k l a1 l (l.length : Int) (i : Int)) ((l.drop i).all okF && (decide (l.length ≤ 60) && decide (a1 ≤ 64))) := by
  intro d
  induction d with
  | zero =>
   intro i hi
   obtain rfl : i = l.length := by omega
   refine ev_succ (fun k => by rw [almshouselaw17_may.l0]) ?_
   simp only [Int.lt_irrefl, if_false, List.drop_length, List.all_nil, Bool.true_and]
   by_cases h : l.length ≤ 60
   ·rw [decide_eq_true h, Bool.true_and]
    exact ev_pos (by omega) (ev_const _)
   ·rw [decide_eq_false h, Bool.false_and]
    exact ev_neg (by omega) (ev_const _)
  | succ d ih =>
   intro i hi
   have hlt : i < l.length := by omega
   refine ev_succ (fun k => by rw [almshouselaw17_may.l0]) ?_
   rw [List.drop_eq_getElem_cons hlt, List.all_cons]
   simp only [if_pos (show (i : Int) < (l.length : Int) by omega), if_pos (show (0 : Int) ≤ (i : Int) by omega), rdF hlt, nxw (j := i) (by omega)]
   unfold okF
   cases ht : (l[i]).f2 with
   | true =>
    simp only [if_true, Bool.true_or, Bool.true_and]
    exact ih (i + 1) (by omega)
   | false =>
    simp only [Bool.false_eq_true, if_false, Bool.false_or]
    refine ev_bind (ev_of (right_f l[i]).1) ?_
    cases hr : rightB l[i] with
    | true =>
     simp only [if_true, Bool.true_and]
     exact ih (i + 1) (by omega)
    | false =>
     simp only [Bool.false_eq_true, if_false, Bool.false_and]
     exact ev_const _
 exact key l.length 0 (by omega)
theorem same_ok (x : List Int) (hx : x.length ≤ 100000) : Ev (fun k => almshouselaw17_same.f k x x) true := by
 unfold almshouselaw17_same.f
 have key : ∀ (d i : Nat), i + d = x.length → Ev (fun k => almshouselaw17_same.l0 k x x (x.length : Int) (i : Int)) true := by
  intro d
  induction d with
  | zero =>
   intro i hi
   refine ev_succ (fun k => by rw [almshouselaw17_same.l0]) ?_
   simp only [if_neg (show ¬ (i : Int) < (x.length : Int) by omega)]
   exact ev_const _
  | succ d ih =>
   intro i hi
   refine ev_succ (fun k => by rw [almshouselaw17_same.l0]) ?_
   simp only [if_pos (show (i : Int) < (x.length : Int) by omega), if_pos (show (0 : Int) ≤ (i : Int) by omega), if_true, nx (j := i) (by omega)]
   exact ih (i + 1) (by omega)
 simp only [if_true]
 exact key x.length 0 (by omega)
theorem rmine_f (a2 a3 : Int) (f : Pg) : almshouseref17_Mine.f f.f0 f.f1 f.f2 f.f3.f0 f.f3.f1 f.f3.f2 f.f3.f3 f.f3.f4 f.f3.f5 f.f4 a2 a3 = some (mineB a2 a3 f) := mine_f a2 a3 f
theorem counting_ok (l : List Pg) (a1 a2 a3 a4 : Int) (hl : l.length ≤ 1000) : Ev (fun k => almshouseref17_counting.f k l a1 a2 a3 a4) (countsL a1 a2 a3 a4 l) := by
 unfold almshouseref17_counting.f
 have key : ∀ (d i : Nat) (acc : List Pg), i + d = l.length → acc.length ≤ i → Ev (fun k => almshouseref17_counting.l0 k a1 a2 a3 a4 acc l (l.length : Int) (i : Int)) (acc ++ countsL a1 a2 a3 a4 (l.drop i)) := by
  intro d
  induction d with
  | zero =>
   intro i acc hi ha
   obtain rfl : i = l.length := by omega
   refine ev_succ (fun k => by rw [almshouseref17_counting.l0]) ?_
   simp only [Int.lt_irrefl, if_false, List.drop_length, countsL, List.filter_nil, List.append_nil]
   exact ev_const _
  | succ d ih =>
   intro i acc hi ha
   have hlt : i < l.length := by omega
   have i0 := ih (i + 1) acc (by omega) (by omega)
   refine ev_succ (fun k => by rw [almshouseref17_counting.l0]) ?_
   rw [List.drop_eq_getElem_cons hlt]
   unfold countsL at i0 ⊢
   rw [List.filter_cons]
   simp only [if_pos (show (i : Int) < (l.length : Int) by omega), if_pos (show (0 : Int) ≤ (i : Int) by omega), rdF hlt, nx (j := i) (by omega)]
   by_cases h1 : (l[i]).f0 ≥ 0
   ·refine ev_pos h1 ?_
    by_cases h2 : (l[i]).f0 < a1
    ·refine ev_pos h2 ?_
     have hin : inB a1 l[i] = true := decide_eq_true ⟨h1, h2⟩
     refine ev_bind (ev_of (rmine_f a2 a3 l[i])) ?_
     rw [hin, Bool.true_and]
     cases hm : mineB a2 a3 l[i] with
     | true =>
      simp only [if_true, Bool.true_and]
      by_cases h3 : (l[i]).f3.f2 < a4
      ·rw [decide_eq_true h3]
       refine ev_pos h3 ?_
       simp only [if_pos (show acc.length < 1599289640401 by omega), if_true]
       have := ih (i + 1) (acc ++ [l[i]]) (by omega) (by simp; omega)
       unfold countsL at this
       simpa only [List.append_assoc, List.singleton_append] using this
      ·rw [decide_eq_false h3]
       refine ev_neg h3 ?_
       exact i0
     | false =>
      simp only [Bool.false_eq_true, if_false, Bool.false_and]
      exact i0
    ·refine ev_neg h2 ?_
     have hin : inB a1 l[i] = false := decide_eq_false (fun h => h2 h.2)
     rw [hin, Bool.false_and]
     exact i0
   ·refine ev_neg h1 ?_
    have hin : inB a1 l[i] = false := decide_eq_false (fun h => h1 h.1)
    rw [hin, Bool.false_and]
    exact i0
 have := key l.length 0 [] (by omega) (by simp)
 simpa using this
theorem has_ok (l : List Int) (a : Int) (hl : l.length ≤ 100000) : Ev (fun k => almshouseref17_has.f k l a) (decide (a ∈ l)) := by
 unfold almshouseref17_has.f
 have key : ∀ (d i : Nat), i + d = l.length → Ev (fun k => almshouseref17_has.l0 k a l (l.length : Int) (i : Int)) (decide (a ∈ l.drop i)) := by
  intro d
  induction d with
  | zero =>
   intro i hi
   obtain rfl : i = l.length := by omega
   refine ev_succ (fun k => by rw [almshouseref17_has.l0]) ?_
   simp only [Int.lt_irrefl, if_false, List.drop_length, List.not_mem_nil, decide_false]
   exact ev_const _
  | succ d ih =>
   intro i hi
   have hlt : i < l.length := by omega
   refine ev_succ (fun k => by rw [almshouseref17_has.l0]) ?_
   rw [List.drop_eq_getElem_cons hlt]
   simp only [if_pos (show (i : Int) < (l.length : Int) by omega), if_pos (show (0 : Int) ≤ (i : Int) by omega), rd_nat hlt, nx (j := i) (by omega)]
   by_cases h : l[i] = a
   ·refine ev_pos h ?_
    rw [decide_eq_true (by rw [List.mem_cons]; exact .inl h.symm)]
    exact ev_const _
   ·refine ev_neg h ?_
    have e : decide (a ∈ l[i] :: l.drop (i + 1)) = decide (a ∈ l.drop (i + 1)) := by
     have : a ∈ l[i] :: l.drop (i + 1) ↔ a ∈ l.drop (i + 1) := by
      rw [List.mem_cons]; exact ⟨fun h2 => h2.resolve_left (fun e => h e.symm), .inr⟩
     simp only [this]
    rw [e]
    exact ih (i + 1) (by omega)
 exact key l.length 0 (by omega)
end Go.Proofs.Ytdmbibjgiehboaa.Hl
