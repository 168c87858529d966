-- Cut by a program of this session (wip/pr/pack.py) to what one claim needs.
import Derived.Test.YtdmbibjgiehboaaCXH
import Derived.Test.YtdmbibjgiehboaaCXV
import Derived.Test.YtdmbibjgiehboaaCGen
import Derived.Test.YtdmbibjgiehboaaCPx5
import Derived.Test.YtdmbibjgiehboaaCPx0
import Derived.Test.YtdmbibjgiehboaaCPx7
namespace Go.Proofs.Ytdmbibjgiehboaa.Hl
open Go.RowKit Go.Proofs.YtdmbibjgiehboaaW.PrintWords Go.Proofs.YtdmbibjgiehboaaW.PrintLast Go.Proofs.YtdmbibjgiehboaaW.PrintMore Go.Proofs.Ytdmbibjgiehboaa.P Go.Proofs.Ytdmbibjgiehboaa.X Go.Proofs.Ytdmbibjgiehboaa.Gen
set_option linter.unusedVariables false
set_option linter.unusedSimpArgs false
abbrev Pg := Go.Proofs.Ytdmbibjgiehboaa.X.Fd
theorem rdF {l : List Pg} {i : Nat} (h : i < l.length) : rd_T36 l (i : Int) = l[i] := by
 unfold rd_T36; rw [List.getD_eq_getElem?_getD, Int.toNat_natCast, List.getElem?_eq_getElem h]; rfl
theorem rdS {l : List Sp} {i : Nat} (h : i < l.length) : rd_T40 l (i : Int) = l[i] := by
 unfold rd_T40; rw [List.getD_eq_getElem?_getD, Int.toNat_natCast, List.getElem?_eq_getElem h]; rfl
def rightB (f : Pg) : Bool := (almshouseref08_Right.f f.f3.f0 f.f3.f1 f.f3.f2 f.f3.f3 f.f3.f4 f.f3.f5).getD false
theorem right_f (f : Pg) : almshouseref08_Right.f f.f3.f0 f.f3.f1 f.f3.f2 f.f3.f3 f.f3.f4 f.f3.f5 = some (rightB f) ∧ (rightB f = true → 0 ≤ f.f3.f2 ∧ f.f3.f2 ≤ 63 ∧ 0 ≤ f.f3.f3 ∧ f.f3.f3 < 2147483648) := by
 unfold rightB almshouseref08_Right.f
 repeat' split
 all_goals (refine ⟨rfl, fun h => ?_⟩; first | omega | (simp at h))
def okF (f : Pg) : Bool := f.f2 || rightB f
def mayB (l : List Pg) (a1 : Int) : Bool := l.all okF && (decide (l.length ≤ 60) && decide (a1 ≤ 64))
theorem nxw {j : Nat} (h : j ≤ 1599289640401) : wrap64 ((j : Int) + 1) = ((j + 1 : Nat) : Int) := by rw [w64 (by omega) (by omega)]; omega
theorem may_ok (l : List Pg) (a1 : Int) (hl : l.length ≤ 1599289640401) : Ev (fun k => almshouselaw17_may.f k l a1) (mayB l a1) := by
 unfold almshouselaw17_may.f
 have key : ∀ (d i : Nat), i + d = l.length → Ev (fun k => almshouselaw17_may.l0 k l a1 l (l.length : Int) (i : Int)) ((l.drop i).all okF && (decide (l.length ≤ 60) && decide (a1 ≤ 64))) := by
  intro d
  induction d with
  | zero =>
   intro i hi
   obtain rfl : i = l.length := by omega
   refine ev_succ (fun k => by rw [almshouselaw17_may.l0]) ?_
   simp only [Int.lt_irrefl, if_false, List.drop_length, List.all_nil, Bool.true_and]
   by_cases h : l.length ≤ 60
   ·rw [decide_eq_true h, Bool.true_and]
    exact ev_pos (by omega) (ev_const _)
   ·rw [decide_eq_false h, Bool.false_and]
    exact ev_neg (by omega) (ev_const _)
  | succ d ih =>
   intro i hi
   have hlt : i < l.length := by omega
   refine ev_succ (fun k => by rw [almshouselaw17_may.l0]) ?_
   rw [List.drop_eq_getElem_cons hlt, List.all_cons]
   simp only [if_pos (show (i : Int) < (l.length : Int) by omega), if_pos (show (0 : Int) ≤ (i : Int) by omega), rdF hlt, nxw (j := i) (by omega)]
   unfold okF
   cases ht : (l[i]).f2 with
   | true =>
    simp only [if_true, Bool.true_or, Bool.true_and]
    exact ih (i + 1) (by omega)
   | false =>
    simp only [Bool.false_eq_true, if_false, Bool.false_or]
    refine ev_bind (ev_of (right_f l[i]).1) ?_
    cases hr : rightB l[i] with
    | true =>
     simp only [if_true, Bool.true_and]
     exact ih (i + 1) (by omega)
    | false =>
     simp only [Bool.false_eq_true, if_false, Bool.false_and]
     exact ev_const _
 exact key l.length 0 (by omega)
theorem rmine_f (a2 a3 : Int) (f : Pg) : almshouseref17_Mine.f f.f0 f.f1 f.f2 f.f3.f0 f.f3.f1 f.f3.f2 f.f3.f3 f.f3.f4 f.f3.f5 f.f4 a2 a3 = some (mineB a2 a3 f) := mine_f a2 a3 f
end Go.Proofs.Ytdmbibjgiehboaa.Hl
