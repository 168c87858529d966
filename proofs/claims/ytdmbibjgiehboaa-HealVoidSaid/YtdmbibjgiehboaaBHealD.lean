-- Cut by a program of this session (wip/pr/pack.py) to what one claim needs.
import Derived.Test.YtdmbibjgiehboaaBHeal
import Derived.Test.YtdmbibjgiehboaaBXB
import Derived.Test.YtdmbibjgiehboaaBPx0
import Derived.Test.YtdmbibjgiehboaaBPx3
import Derived.Test.YtdmbibjgiehboaaBPx5
import Derived.Test.YtdmbibjgiehboaaBPx6
import Derived.Test.YtdmbibjgiehboaaBPx7
import Derived.Test.YtdmbibjgiehboaaBXH
import Derived.Test.YtdmbibjgiehboaaBXV
namespace Go.Proofs.Ytdmbibjgiehboaa.Hl
open Go.RowKit Go.Proofs.YtdmbibjgiehboaaW.PrintWords Go.Proofs.YtdmbibjgiehboaaW.PrintLast Go.Proofs.YtdmbibjgiehboaaW.PrintMore Go.Proofs.Ytdmbibjgiehboaa.P Go.Proofs.Ytdmbibjgiehboaa.X Go.Proofs.Ytdmbibjgiehboaa.Gen
set_option linter.unusedVariables false
set_option linter.unusedSimpArgs false
set_option linter.unusedSectionVars false
def pg (b p pl sq : Int) (c : Bool) : Pg := ⟨b, p, false, ⟨0, 1, pl, sq, 1, c⟩, ⟨#[]⟩⟩
theorem fixed_ok : almshouselaw17_fixed.f = some true := by
 have hz1 : ∀ (l : List Pg) (a1 a2 a3 a4 : Int) (s : List Sp) (g : List Int) (q : Int), l.length ≤ 1000 → a1 ≤ 64 → spotsOf (bestOf l a1 a2 a3 a4) = s → goneOf l a1 a2 a3 a4 = g → seqL (mineL a1 a2 a3 l) = q → heal_Heal.f l a1 a2 a3 a4 = some (s, g, q) := by
  intro l a1 a2 a3 a4 s g q h1 h2 e1 e2 e3
  unfold heal_Heal.f
  rw [if_pos ⟨h1, h2⟩, e1, e2, e3]
 have g1 : goneOf [pg 0 0 3 7 true, pg 1 0 3 7 true] 2 0 1 9 = [0] := by decide +kernel
 have b1 : bestOf [pg 0 0 3 7 true, pg 1 0 3 7 true] 2 0 1 9 = [(3, pg 1 0 3 7 true)] := by kernel_rfl
 have q1 : seqL (mineL 2 0 1 [pg 0 0 3 7 true, pg 1 0 3 7 true]) = 8 := by decide +kernel
 have s1 : spotsOf [(3, pg 1 0 3 7 true)] = [⟨3, 1, 0⟩] := by simp [spotsOf, spotOf, pg]
 have h1 := hz1 [pg 0 0 3 7 true, pg 1 0 3 7 true] 2 0 1 9 _ _ _ (by decide) (by decide) (by rw [b1, s1]) g1 q1
 have g2 : goneOf [pg 0 0 3 7 false, pg 0 1 4 8 false, pg 1 0 3 7 true] 2 0 1 9 = [1] := by decide +kernel
 have b2 : bestOf [pg 0 0 3 7 false, pg 0 1 4 8 false, pg 1 0 3 7 true] 2 0 1 9 = [(3, pg 0 0 3 7 false), (4, pg 0 1 4 8 false)] := by kernel_rfl
 have q2 : seqL (mineL 2 0 1 [pg 0 0 3 7 false, pg 0 1 4 8 false, pg 1 0 3 7 true]) = 9 := by decide +kernel
 have s2 : spotsOf [(3, pg 0 0 3 7 false), (4, pg 0 1 4 8 false)] = [⟨3, 0, 0⟩, ⟨4, 0, 1⟩] := by
  refine (spots_one (by simp) ?_ ?_).symm
  ·exact List.Perm.refl _
  ·simp
 have h2 := hz1 [pg 0 0 3 7 false, pg 0 1 4 8 false, pg 1 0 3 7 true] 2 0 1 9 _ _ _ (by decide) (by decide) (by rw [b2, s2]) g2 q2
 have v0 : voidL 9 (mineL 2 0 1 [pg 1 0 9 0 false]) = [1] := by decide +kernel
 have h3 : heal_Void.f [pg 1 0 9 0 false] 2 0 1 9 = some [1] := by
  unfold heal_Void.f
  rw [if_pos (by decide), v0]
  simp
 unfold pg at h1 h2 h3
 unfold almshouselaw17_fixed.f
 simp only [almshouselaw17_page.f, Option.bind_some, h1, h2, h3]
 decide +kernel
end Go.Proofs.Ytdmbibjgiehboaa.Hl
