-- Cut by a program of this session (wip/pr/pack.py) to what one claim needs.
import Derived.Test.YtdmbibjgiehboaaAHealB
import Derived.Test.YtdmbibjgiehboaaAXB
namespace Go.Proofs.Ytdmbibjgiehboaa.Hl
open Go.RowKit Go.Proofs.YtdmbibjgiehboaaW.PrintWords Go.Proofs.YtdmbibjgiehboaaW.PrintLast Go.Proofs.YtdmbibjgiehboaaW.PrintMore Go.Proofs.Ytdmbibjgiehboaa.P Go.Proofs.Ytdmbibjgiehboaa.X Go.Proofs.Ytdmbibjgiehboaa.Gen
set_option linter.unusedVariables false
set_option linter.unusedSimpArgs false
set_option linter.unusedSectionVars false
theorem goneOf_len (l : List Pg) (a1 a2 a3 a4 : Int) (h1 : a1 ≤ 64) : (goneOf l a1 a2 a3 a4).length ≤ 64 := by
 unfold goneOf
 have := goneL_len (hasKey (mapOf a1 l)) (countsL a1 a2 a3 a4 l) (max a1 0).toNat 0 []
 simp at this
 omega
theorem getF_putF (k k' : Int) (f : Pg) : ∀ m : List (Int × Pg), getF k (putF k' f m) = if k = k' then some f else getF k m
 | [] => rfl
 | p :: m => by
  rw [putF]
  by_cases h : k' = p.1
  ·rw [if_pos h, getF, getF]
   by_cases h2 : k = k'
   ·rw [if_pos h2, if_pos h2]
   ·rw [if_neg h2, if_neg h2, if_neg (by omega)]
  ·rw [if_neg h, getF, getF]
   by_cases h2 : k = p.1
   ·rw [if_pos h2, if_pos h2, if_neg (by omega)]
   ·rw [if_neg h2, if_neg h2]; exact getF_putF k k' f m
theorem best_step (gone : List Int) (m : List (Int × Pg)) (f : Pg) (place : Int) : getF place (bestStep gone m f) = refStep place gone (getF place m) f := by
 unfold refStep
 cases hin : decide (f.f0 ∈ gone) with
 | true => rw [bestStep_in hin]; rfl
 | false =>
  by_cases hp : f.f3.f2 = place
  ·subst hp
   rw [decide_eq_true rfl, if_neg (by decide)]
   cases hg : getF f.f3.f2 m with
   | none =>
    rw [bestStep_none hg, hin, if_pos (by decide), getF_putF, if_pos rfl]
   | some g =>
    rw [bestStep_some hg, hin, Bool.not_false, Bool.true_and]
    by_cases ha : aheadLt f g = true
    ·rw [if_pos ha, getF_putF, if_pos rfl]; simp [ha]
    ·rw [if_neg ha, hg]; simp [ha]
  ·rw [decide_eq_false hp]
   simp only [Bool.not_false, Bool.or_true, if_true]
   have key : ∀ c : Bool, getF place (if c = true then putF f.f3.f2 f m else m) = getF place m := by
    intro c
    cases c with
    | true => rw [if_pos rfl, getF_putF, if_neg (fun h => hp h.symm)]
    | false => rw [if_neg (by decide)]
   unfold bestStep
   exact key _
theorem best_fold (gone : List Int) (place : Int) : ∀ (cs : List Pg) (m : List (Int × Pg)), getF place (cs.foldl (bestStep gone) m) = cs.foldl (refStep place gone) (getF place m)
 | [], m => rfl
 | f :: cs, m => by rw [List.foldl_cons, List.foldl_cons, best_fold gone place cs, best_step]
theorem best_get (l : List Pg) (a1 a2 a3 a4 place : Int) : getF place (bestOf l a1 a2 a3 a4) = refBest l a1 a2 a3 a4 place := by
 unfold bestOf bestL refBest
 exact best_fold _ _ _ []
end Go.Proofs.Ytdmbibjgiehboaa.Hl
