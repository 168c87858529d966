-- Cut by a program of this session (wip/pr/pack.py) to what one claim needs.
import Derived.Test.YtpcpllabegfdjaaBPx0
import Derived.Test.YtpcpllabegfdjaaBPx16
import Derived.Test.YtpcpllabegfdjaaBPx17
namespace Go.Proofs.Ytpcpllabegfdjaa.P
open Go.RowKit Go.Proofs.YtpcpllabegfdjaaW.PrintWords Go.Proofs.YtpcpllabegfdjaaW.PrintLast Go.Proofs.YtpcpllabegfdjaaW.PrintMore
attribute [local go_sem] max2_int min2_int max_two min_two max_three min_three max_four min_four
set_option linter.unusedVariables false
set_option linter.unusedSimpArgs false
def almshouseref09_Total.f (k : Nat) (a0 : Int) (a1 : Int) (a2 : Int) : Option (Int) := (almshouseref09_Right.f a0 a1 a2).bind fun t163 => (if t163 = true then ((almshouseref09_Data.f k a0 a2).bind fun t164 => (some (wrap64 (t164 + a1)))) else (some 0))
set_option maxHeartbeats 8000000 in
set_option maxRecDepth 100000 in
theorem almshouseref09_Total.calls (k : Nat) (a0 : Int) (a1 : Int) (a2 : Int) (r : Int) (w : World) (h : almshouseref09_Total.f k a0 a1 a2 = some r) :
  Calls Try.prog 29 #[.int .i64 a0, .int .i64 a1, .int .i64 a2] w fun e w' => e = .returned (.int .i64 r) ∧ Drawn0 w w' := by
 have H : ((almshouseref09_Right.f a0 a1 a2).bind fun t163 => (if t163 = true then ((almshouseref09_Data.f k a0 a2).bind fun t164 => (some (wrap64 (t164 + a1)))) else (some 0))) = some r := h
 clear h
 replace H := Option.bind_eq_some_iff.mp H
 obtain ⟨t163, A40, H⟩ := H
 replace H : (if t163 = true then ((almshouseref09_Data.f k a0 a2).bind fun t164 => (some (wrap64 (t164 + a1)))) else (some 0)) = some r := H
 have A4 := Aside0.mk A40
 clear A40
 by_cases c5 : t163 = true
 ·subst c5
  have H1 : ((almshouseref09_Data.f k a0 a2).bind fun t164 => (some (wrap64 (t164 + a1)))) = some r := by rw [if_pos rfl] at H; exact H
  clear H
  have H := H1
  clear H1
  replace H := Option.bind_eq_some_iff.mp H
  obtain ⟨t164, A60, H⟩ := H
  replace H : (some (wrap64 (t164 + a1))) = some r := H
  have A6 := Aside0.mk A60
  clear A60
  obtain rfl := Option.some.inj H
  go_enter Try.func29, Try.ntmps29
  go_wp2_with (first | ((with_reducible refine gate_callee (f := 39) rfl ?_); refine goesL_ (some 10) rfl rfl Try.func39 (by kernel_rfl) rfl #[.int .i64 a0, .int .i64 a1, .int .i64 a2] rfl (by (try simp only [List.map_toArray, List.map_cons, List.map_nil]); first | done | rfl | (simp only [List.length_drop, List.length_take]; rfl)) ?_; (with_reducible refine (almshouseref09_Right.calls a0 a1 a2 true _ A4.out).mono ?_); rintro e w' ⟨rfl, ⟨nd, rfl⟩⟩; refine ⟨_, rfl, ?_⟩) | ((with_reducible refine gate_callee (f := 40) rfl ?_); refine goesL_ (some 14) rfl rfl Try.func40 (by kernel_rfl) rfl #[.int .i64 a0, .int .i64 a2] rfl (by (try simp only [List.map_toArray, List.map_cons, List.map_nil]); first | done | rfl | (simp only [List.length_drop, List.length_take]; rfl)) ?_; (with_reducible refine (almshouseref09_Data.calls k a0 a2 t164 _ A6.out).mono ?_); rintro e w' ⟨rfl, ⟨nd, rfl⟩⟩; refine ⟨_, rfl, ?_⟩))
  go_ret
  exact ⟨by first | rfl | (simp; done) | (simp [*]; done), by repeat (first | exact Drawn0.refl _ | apply Drawn0.step)⟩
 ·replace c5 := Bool.eq_false_iff.mpr c5
  subst c5
  have H1 : (some 0) = some r := by rw [if_neg (show ¬ (false = true) by decide)] at H; exact H
  clear H
  have H := H1
  clear H1
  obtain rfl := Option.some.inj H
  go_enter Try.func29, Try.ntmps29
  go_wp2_with (first | ((with_reducible refine gate_callee (f := 39) rfl ?_); refine goesL_ (some 10) rfl rfl Try.func39 (by kernel_rfl) rfl #[.int .i64 a0, .int .i64 a1, .int .i64 a2] rfl (by (try simp only [List.map_toArray, List.map_cons, List.map_nil]); first | done | rfl | (simp only [List.length_drop, List.length_take]; rfl)) ?_; (with_reducible refine (almshouseref09_Right.calls a0 a1 a2 false _ A4.out).mono ?_); rintro e w' ⟨rfl, ⟨nd, rfl⟩⟩; refine ⟨_, rfl, ?_⟩))
  go_ret
  exact ⟨by first | rfl | (simp; done) | (simp [*]; done), by repeat (first | exact Drawn0.refl _ | apply Drawn0.step)⟩
end Go.Proofs.Ytpcpllabegfdjaa.P
