-- Cut by a program of this session (wip/pr/pack.py) to what one claim needs.
import Derived.Lib.SlicesCompact
import Derived.Test.YtdmbibjgiehboaaAWMore
namespace Go.Proofs.Ytdmbibjgiehboaa.Gen
open Go.RowKit Go.Proofs.YtdmbibjgiehboaaW.PrintWords Go.Proofs.YtdmbibjgiehboaaW.PrintLast Go.Proofs.YtdmbibjgiehboaaW.PrintMore
set_option linter.unusedVariables false
theorem ev_succ {α : Type} {g h : Nat → Option α} {r : α} (e : ∀ k, g (k + 1) = h k) (H : Ev h r) : Ev g r := by
 obtain ⟨K, hK⟩ := H
 refine ⟨K + 1, fun k hk => ?_⟩
 obtain ⟨m, rfl⟩ : ∃ m, k = m + 1 := ⟨k - 1, by omega⟩
 rw [e]; exact hK m (by omega)
theorem ev_bind {α β : Type} {g : Nat → Option α} {f : Nat → α → Option β} {a : α} {b : β} (h1 : Ev g a) (h2 : Ev (fun k => f k a) b) : Ev (fun k => (g k).bind (f k)) b := by
 obtain ⟨K, hK⟩ := h1
 obtain ⟨L, hL⟩ := h2
 exact ⟨max K L, fun k hk => by show (g k).bind (f k) = _; rw [hK k (by omega)]; exact hL k (by omega)⟩
theorem ev_const {α : Type} (a : α) : Ev (fun _ => some a) a := ⟨0, fun _ _ => rfl⟩
theorem ev_of {α : Type} {x : Option α} {a : α} (h : x = some a) : Ev (fun _ => x) a := ⟨0, fun _ _ => h⟩
theorem ev_congr {α : Type} {g h : Nat → Option α} {r : α} (e : ∀ k, g k = h k) (H : Ev h r) : Ev g r := by
 obtain ⟨K, hK⟩ := H
 exact ⟨K, fun k hk => by rw [e]; exact hK k hk⟩
theorem ev_ex {α : Type} {g : Nat → Option α} {r : α} (H : Ev g r) : ∃ k, g k = some r := by
 obtain ⟨K, hK⟩ := H
 exact ⟨K, hK K (Nat.le_refl _)⟩
theorem ev_pos {α : Type} {c : Prop} [Decidable c] {g h : Nat → Option α} {r : α} (hc : c) (h1 : Ev g r) : Ev (fun k => if c then g k else h k) r := ev_congr (fun k => if_pos hc) h1
theorem ev_neg {α : Type} {c : Prop} [Decidable c] {g h : Nat → Option α} {r : α} (hc : ¬ c) (h1 : Ev h r) : Ev (fun k => if c then g k else h k) r := ev_congr (fun k => if_neg hc) h1
theorem w64 {x : Int} (h0 : -9223372036854775808 ≤ x) (h1 : x ≤ 9223372036854775807) : wrap64 x = x := by unfold wrap64; omega
theorem nx {j : Nat} (h : j ≤ 1000000) : wrap64 ((j : Int) + 1) = ((j + 1 : Nat) : Int) := by rw [w64 (by omega) (by omega)]; omega
theorem rd_nat {xs : List Int} {i : Nat} (h1 : i < xs.length) : rd xs (i : Int) = xs[i] := by
 unfold rd; rw [List.getD_eq_getElem?_getD, Int.toNat_natCast, List.getElem?_eq_getElem h1]; rfl
end Go.Proofs.Ytdmbibjgiehboaa.Gen
