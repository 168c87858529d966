-- Cut by a program of this session (wip/pr/pack.py) to what one claim needs.
import Derived.Test.YteedjokkfiglhaaBStripeB
namespace Go.Proofs.Yteedjokkfiglhaa.St
open Go.RowKit Go.Proofs.YteedjokkfiglhaaW.PrintWords Go.Proofs.YteedjokkfiglhaaW.PrintLast Go.Proofs.YteedjokkfiglhaaW.PrintMore Go.Proofs.Yteedjokkfiglhaa.P Go.Proofs.Yteedjokkfiglhaa.X Go.Proofs.Yteedjokkfiglhaa.Gen
set_option linter.unusedVariables false
theorem Ld_pick {C D B P : Int} (hG : Gd C D B P) (l out : List Int) (ho : out.length ≤ 1000) {b : Nat} (hb : b < C.toNat) (hr : rd (Ld C (C * D * B) out) b < ((R C (C * D * B) l b).length : Int)) :
  Ld C (C * D * B) (out ++ [rd (R C (C * D * B) l b) (rd (Ld C (C * D * B) out) b)]) = (Ld C (C * D * B) out).set b (rd (Ld C (C * D * B) out) b + 1) := by
 have g := hG
 unfold Gd at g
 have e := rd_Ld (C := C) (N := C * D * B) (l := out) hb
 have hle : (Ln C (C * D * B) out b).length ≤ out.length := List.length_filter_le _ _
 rw [e] at hr ⊢
 have hx : rd (R C (C * D * B) l b) ((Ln C (C * D * B) out b).length : Int) ∈ R C (C * D * B) l b := by
  rw [rd_nat (by omega)]; exact List.getElem_mem _
 rw [R_mem] at hx
 obtain ⟨h0, h1, h2, _⟩ := hx
 rw [Ld_in (by omega) out _ h0 h1 (by omega), h2, Int.toNat_natCast, e, w64 (by omega) (by omega)]
theorem fold_max_le (l : List Int) : ∀ a : Int, a ≤ l.foldl max a ∧ (∀ x, x ∈ l → x ≤ l.foldl max a) := by
 induction l with
 | nil => intro a; exact ⟨Int.le_refl _, by simp⟩
 | cons b t ih =>
  intro a
  have := ih (max a b)
  rw [List.foldl_cons]
  refine ⟨by omega, fun x hx => ?_⟩
  rcases List.mem_cons.1 hx with rfl | hx
  ·omega
  ·exact this.2 x hx
theorem fold_max_mem (l : List Int) : ∀ a : Int, l.foldl max a = a ∨ l.foldl max a ∈ l := by
 induction l with
 | nil => intro a; exact .inl rfl
 | cons b t ih =>
  intro a
  rw [List.foldl_cons]
  rcases ih (max a b) with h | h
  ·rw [h]
   by_cases hab : a ≤ b
   ·right; rw [Int.max_eq_right hab]; exact List.mem_cons_self
   ·left; omega
  ·exact .inr (List.mem_cons_of_mem _ h)
theorem fold_min_mem (l : List Int) : ∀ a : Int, l.foldl min a = a ∨ l.foldl min a ∈ l := by
 induction l with
 | nil => intro a; exact .inl rfl
 | cons b t ih =>
  intro a
  rw [List.foldl_cons]
  rcases ih (min a b) with h | h
  ·rw [h]
   by_cases hab : b ≤ a
   ·right; rw [Int.min_eq_right hab]; exact List.mem_cons_self
   ·left; omega
  ·exact .inr (List.mem_cons_of_mem _ h)
theorem Ld_pos {C : Int} (hC : 0 < C) (N : Int) (l : List Int) : 0 < (Ld C N l).length := by rw [Ld_len]; omega
theorem Ld_bd (C N : Int) (l : List Int) : ∀ x, x ∈ Ld C N l → 0 ≤ x ∧ x ≤ l.length := by
 intro x hx
 unfold Ld at hx
 rw [List.mem_map] at hx
 obtain ⟨c, _, rfl⟩ := hx
 have : (Ln C N l c).length ≤ l.length := List.length_filter_le _ _
 omega
def spread (x : List Int) : Int := x.foldl max (x.headD 0) - x.foldl min (x.headD 0)
theorem spread_bd {C N : Int} (hC : 0 < C) (l : List Int) (hl : l.length ≤ 1000) : -1000 ≤ spread (Ld C N l) ∧ spread (Ld C N l) ≤ 1000 ∧ 0 ≤ (Ld C N l).foldl max ((Ld C N l).headD 0) ∧ (Ld C N l).foldl max ((Ld C N l).headD 0) ≤ 1000 ∧ 0 ≤ (Ld C N l).foldl min ((Ld C N l).headD 0) ∧ (Ld C N l).foldl min ((Ld C N l).headD 0) ≤ 1000 := by
 have hb := Ld_bd C N l
 have hp := Ld_pos hC N l
 have hh : 0 ≤ (Ld C N l).headD 0 ∧ (Ld C N l).headD 0 ≤ l.length := by
  cases h : Ld C N l with
  | nil => rw [h] at hp; simp at hp
  | cons a t => exact hb a (by rw [h]; exact List.mem_cons_self)
 have h1 : 0 ≤ (Ld C N l).foldl max ((Ld C N l).headD 0) ∧ (Ld C N l).foldl max ((Ld C N l).headD 0) ≤ l.length := by
  rcases fold_max_mem (Ld C N l) ((Ld C N l).headD 0) with h | h
  ·rw [h]; exact hh
  ·exact hb _ h
 have h2 : 0 ≤ (Ld C N l).foldl min ((Ld C N l).headD 0) ∧ (Ld C N l).foldl min ((Ld C N l).headD 0) ≤ l.length := by
  rcases fold_min_mem (Ld C N l) ((Ld C N l).headD 0) with h | h
  ·rw [h]; exact hh
  ·exact hb _ h
 unfold spread
 omega
theorem even_ok {C D B P : Int} (hG : Gd C D B P) (l : List Int) (hl : l.length ≤ 1000) : Ev (fun k => stripe_Even.f k C D B P l) (decide (spread (Ld C (C * D * B) l) ≤ 1)) := by
 have g := hG
 unfold Gd at g
 have hp := Ld_pos (show 0 < C by omega) (C * D * B) l
 have hs := spread_bd (N := C * D * B) (show 0 < C by omega) l hl
 unfold stripe_Even.f
 refine ev_bind (loads_ok hG l hl) ?_
 simp only [if_neg (show ¬ ((Ld C (C * D * B) l).length : Int) = 0 by omega)]
 refine ev_bind (ev_of (a := Lib.maxOf (Ld C (C * D * B) l)) (by unfold slices_Max_int_int.f; rw [if_pos hp])) ?_
 refine ev_bind (ev_of (a := Lib.minOf (Ld C (C * D * B) l)) (by unfold slices_Min_int_int.f; rw [if_pos hp])) ?_
 unfold spread at hs ⊢
 unfold Lib.maxOf Lib.minOf
 rw [w64 (by omega) (by omega)]
 exact ev_const _
end Go.Proofs.Yteedjokkfiglhaa.St
