-- Cut by a program of this session (wip/pr/pack.py) to what one claim needs.
import Derived.WalkSpells
import Derived.Lib.Hide
import Derived.Test.YtdmbibjgiehboaaAPx24
import Derived.Test.YtdmbibjgiehboaaAXMp
namespace Go.Proofs.Ytdmbibjgiehboaa.X
open Go.RowKit Go.Proofs.YtdmbibjgiehboaaW.PrintWords Go.Proofs.YtdmbibjgiehboaaW.PrintLast Go.Proofs.YtdmbibjgiehboaaW.PrintMore Go.Proofs.Ytdmbibjgiehboaa.P
set_option linter.unusedVariables false
set_option linter.unusedSimpArgs false
abbrev Fd := S36
theorem w64' {x : Int} (h0 : -9223372036854775808 ≤ x) (h1 : x ≤ 9223372036854775807) : wrap64 x = x := by unfold wrap64; omega
theorem rd_nat' {xs : List Int} {i : Nat} (h1 : i < xs.length) : rd xs (i : Int) = xs[i] := by
 unfold rd; rw [List.getD_eq_getElem?_getD, Int.toNat_natCast, List.getElem?_eq_getElem h1]; rfl
theorem index_ok (l : List Int) (a : Int) (hl : l.length ≤ 9223372036854775807) : ∀ (d i k : Nat), i + d = l.length → d < k → ∃ r : Int, slices_Index_int_int.l0 k l a (l.length : Int) (i : Int) = some r ∧ (0 ≤ r ↔ a ∈ l.drop i) := by
 intro d
 induction d with
 | zero =>
  intro i k hi hk
  obtain ⟨k, rfl⟩ : ∃ m, k = m + 1 := ⟨k - 1, by omega⟩
  rw [slices_Index_int_int.l0, if_neg (by omega)]
  exact ⟨-1, rfl, by rw [show i = l.length by omega, List.drop_length]; simp⟩
 | succ d ih =>
  intro i k hi hk
  obtain ⟨k, rfl⟩ : ∃ m, k = m + 1 := ⟨k - 1, by omega⟩
  have hlt : i < l.length := by omega
  rw [slices_Index_int_int.l0, if_pos (by omega), if_pos (by omega), if_pos (by omega), rd_nat' hlt, List.drop_eq_getElem_cons hlt]
  by_cases e : a = l[i]
  ·rw [if_pos e]
   exact ⟨i, rfl, by rw [List.mem_cons]; exact ⟨fun _ => .inl e, fun _ => by omega⟩⟩
  ·rw [if_neg e]
   rw [w64' (by omega) (by omega), show (i : Int) + 1 = ((i + 1 : Nat) : Int) by omega]
   obtain ⟨r, h1, h2⟩ := ih (i + 1) k (by omega) (by omega)
   exact ⟨r, h1, by rw [h2, List.mem_cons]; exact ⟨.inr, fun h => h.resolve_left e⟩⟩
theorem contains_ok (l : List Int) (a : Int) (hl : l.length ≤ 9223372036854775807) : ∃ k, slices_Contains_int_int.f k l a = some (decide (a ∈ l)) := by
 obtain ⟨r, h1, h2⟩ := index_ok l a hl l.length 0 (l.length + 1) (by omega) (by omega)
 refine ⟨l.length + 1, ?_⟩
 unfold slices_Contains_int_int.f slices_Index_int_int.f
 rw [show ((0 : Nat) : Int) = 0 from rfl] at h1
 rw [h1]
 simp only [Option.bind_some, ge_iff_le, h2, List.drop_zero]
theorem contains_calls (A : Option Addr) (c : Nat) (l : List Int) (a : Int) (w : World) (hr : Kd.C (Kd.int .i64) w A l.length l) (hc : l.length ≤ c) :
  Calls Try.prog 19 #[.slice A l.length c, .int .i64 a] w fun e w' => e = .returned (.bool (decide (a ∈ l))) ∧ Drawn0 w w' := by
 obtain ⟨k, h⟩ := contains_ok l a hr.2.1
 exact slices_Contains_int_int.calls k A c l a _ w hr hc h
def standsB (f : Fd) (gone : List Int) (g : Fd) : Bool := decide (g.f0 ≠ f.f0) && (decide (g.f3.f2 = f.f3.f2) && (decide (f.f3.f3 ≤ g.f3.f3) && !decide (g.f0 ∈ gone)))
set_option maxHeartbeats 3200000 in
set_option maxRecDepth 100000 in
theorem need1_calls (bf bg : Nat) (f g : Fd) (A : Option Addr) (c : Nat) (gone : List Int) (w : World) (hc : gone.length ≤ c) (hC : Kd.C (Kd.int .i64) w A gone.length gone)
  (h0 : w.cell? ⟨bf, 0, none⟩ = some (.int .i64 f.f0)) (h5 : w.cell? ⟨bf, 5, none⟩ = some (.int .i64 f.f3.f2)) (h6 : w.cell? ⟨bf, 6, none⟩ = some (.int .i64 f.f3.f3))
  (hg : w.cell? ⟨bg, 0, none⟩ = some (.slice A gone.length c)) :
  Calls Try.prog 39 #[.agg #[.int .i64 g.f0, .int .i64 g.f1, .bool g.f2, .int .i64 g.f3.f0, .int .i64 g.f3.f1, .int .i64 g.f3.f2, .int .i64 g.f3.f3, .int .i64 g.f3.f4, .bool g.f3.f5, .string g.f4], .pointer (some ⟨bf, 0, none⟩), .pointer (some ⟨bg, 0, none⟩)] w
   fun e w' => e = .returned (.bool (standsB f gone g)) ∧ Below w.heap.size w w' := by
 have hu := Try.underlying36
 have HC := Lib.hid (Kd.C_below hC (Below.refl _ _))
 have HS := Lib.hid (rfl : standsB f gone g = standsB f gone g)
 have hbf : bf < w.heap.size := World.block_lt_of_cell? _ ⟨bf, 0, none⟩ h0
 have hbg : bg < w.heap.size := World.block_lt_of_cell? _ ⟨bg, 0, none⟩ hg
 clear hC
 by_cases c1 : g.f0 = f.f0
 ·have b0 : (g.f0 == f.f0) = true := beq_iff_eq.mpr c1
  have b1 : (g.f0 != f.f0) = false := bne_eq_false_iff_eq.mpr c1
  have ES := Lib.hid (show standsB f gone g = false by unfold standsB; simp [c1])
  clear c1
  go_enter Try.func39, Try.ntmps39
  go_wp2
  go_ret
  exact ⟨by rw [ES.out]; rfl, (Below.refl _ _).alloc (Nat.le_refl _) _⟩
 ·have b0 : (g.f0 == f.f0) = false := beq_eq_false_iff_ne.mpr c1
  have b1 : (g.f0 != f.f0) = true := bne_iff_ne.mpr c1
  by_cases c2 : g.f3.f2 = f.f3.f2
  ·have b2 : (g.f3.f2 == f.f3.f2) = true := beq_iff_eq.mpr c2
   by_cases c3 : f.f3.f3 ≤ g.f3.f3
   ·have b3 : decide (f.f3.f3 ≤ g.f3.f3) = true := decide_eq_true c3
    have ES := Lib.hid (show standsB f gone g = !decide (g.f0 ∈ gone) by unfold standsB; simp [c1, c2, c3])
    clear c1 c2 c3
    go_enter Try.func39, Try.ntmps39
    go_wp2_with (go_at_call 19; refine (contains_calls _ _ _ _ _ (Kd.C_alloc HC.out _) hc).mono ?_; rintro e w' ⟨rfl, ⟨n, rfl⟩⟩)
    go_ret
    exact ⟨by rw [ES.out]; rfl, pw_below_drewN ((Below.refl _ _).alloc (Nat.le_refl _) _) _⟩
   ·have b3 : decide (f.f3.f3 ≤ g.f3.f3) = false := decide_eq_false c3
    have ES := Lib.hid (show standsB f gone g = false by unfold standsB; simp [c3])
    clear c1 c2 c3
    go_enter Try.func39, Try.ntmps39
    go_wp2
    go_ret
    exact ⟨by rw [ES.out]; rfl, (Below.refl _ _).alloc (Nat.le_refl _) _⟩
  ·have b2 : (g.f3.f2 == f.f3.f2) = false := beq_eq_false_iff_ne.mpr c2
   have ES := Lib.hid (show standsB f gone g = false by unfold standsB; simp [c2])
   clear c1 c2
   go_enter Try.func39, Try.ntmps39
   go_wp2
   go_ret
   exact ⟨by rw [ES.out]; rfl, (Below.refl _ _).alloc (Nat.le_refl _) _⟩
end Go.Proofs.Ytdmbibjgiehboaa.X
