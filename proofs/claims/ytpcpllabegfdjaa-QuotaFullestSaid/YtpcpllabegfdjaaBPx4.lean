-- Cut by a program of this session (wip/pr/pack.py) to what one claim needs.
import Derived.Test.YtpcpllabegfdjaaBPx0
import Derived.Test.YtpcpllabegfdjaaBPx1
import Derived.Test.YtpcpllabegfdjaaBPx2
import Derived.Test.YtpcpllabegfdjaaBPx3
namespace Go.Proofs.Ytpcpllabegfdjaa.P
open Go.RowKit Go.Proofs.YtpcpllabegfdjaaW.PrintWords Go.Proofs.YtpcpllabegfdjaaW.PrintLast Go.Proofs.YtpcpllabegfdjaaW.PrintMore
attribute [local go_sem] max2_int min2_int max_two min_two max_three min_three max_four min_four
set_option linter.unusedVariables false
set_option linter.unusedSimpArgs false
def rule_Total.f (a0 : Int) (a1 : Int) (a2 : Int) : Option (Int) := (rule_Check.f a0 a1).bind fun t103 => (if t103 = 0 then ((rule_paged.f a2).bind fun t104 => (if t104 = true then ((rule_Data.f a0 a2).bind fun t105 => (some (wrap64 (t105 + a1)))) else (some 0))) else (some 0))
set_option maxHeartbeats 8000000 in
set_option maxRecDepth 100000 in
theorem rule_Total.calls (a0 : Int) (a1 : Int) (a2 : Int) (r : Int) (w : World) (h : rule_Total.f a0 a1 a2 = some r) :
  Calls Try.prog 23 #[.int .i64 a0, .int .i64 a1, .int .i64 a2] w fun e w' => e = .returned (.int .i64 r) ∧ Drawn0 w w' := by
 have H : ((rule_Check.f a0 a1).bind fun t103 => (if t103 = 0 then ((rule_paged.f a2).bind fun t104 => (if t104 = true then ((rule_Data.f a0 a2).bind fun t105 => (some (wrap64 (t105 + a1)))) else (some 0))) else (some 0))) = some r := h
 clear h
 replace H := Option.bind_eq_some_iff.mp H
 obtain ⟨t103, A40, H⟩ := H
 replace H : (if t103 = 0 then ((rule_paged.f a2).bind fun t104 => (if t104 = true then ((rule_Data.f a0 a2).bind fun t105 => (some (wrap64 (t105 + a1)))) else (some 0))) else (some 0)) = some r := H
 have A4 := Aside0.mk A40
 clear A40
 by_cases c5 : t103 = 0
 ·rw [if_pos c5] at H
  have c5b0 : (t103 == 0) = true := beq_iff_eq.mpr c5
  have c5b1 : (t103 != 0) = false := bne_eq_false_iff_eq.mpr c5
  clear c5
  replace H := Option.bind_eq_some_iff.mp H
  obtain ⟨t104, A60, H⟩ := H
  replace H : (if t104 = true then ((rule_Data.f a0 a2).bind fun t105 => (some (wrap64 (t105 + a1)))) else (some 0)) = some r := H
  have A6 := Aside0.mk A60
  clear A60
  by_cases c7 : t104 = true
  ·subst c7
   have H1 : ((rule_Data.f a0 a2).bind fun t105 => (some (wrap64 (t105 + a1)))) = some r := by rw [if_pos rfl] at H; exact H
   clear H
   have H := H1
   clear H1
   replace H := Option.bind_eq_some_iff.mp H
   obtain ⟨t105, A80, H⟩ := H
   replace H : (some (wrap64 (t105 + a1))) = some r := H
   have A8 := Aside0.mk A80
   clear A80
   obtain rfl := Option.some.inj H
   go_enter Try.func23, Try.ntmps23
   go_wp2_with (first | ((with_reducible refine gate_callee (f := 30) rfl ?_); refine goesL_ (some 9) rfl rfl Try.func30 (by kernel_rfl) rfl #[.int .i64 a0, .int .i64 a1] rfl (by (try simp only [List.map_toArray, List.map_cons, List.map_nil]); first | done | rfl | (simp only [List.length_drop, List.length_take]; rfl)) ?_; (with_reducible refine (rule_Check.calls a0 a1 t103 _ A4.out).mono ?_); rintro e w' ⟨rfl, ⟨nd, rfl⟩⟩; refine ⟨_, rfl, ?_⟩) | (go_at_call 31; (with_reducible refine (rule_paged.calls a2 true _ A6.out).mono ?_); rintro e w' ⟨rfl, ⟨nd, rfl⟩⟩) | ((with_reducible refine gate_callee (f := 32) rfl ?_); refine goesL_ (some 18) rfl rfl Try.func32 (by kernel_rfl) rfl #[.int .i64 a0, .int .i64 a2] rfl (by (try simp only [List.map_toArray, List.map_cons, List.map_nil]); first | done | rfl | (simp only [List.length_drop, List.length_take]; rfl)) ?_; (with_reducible refine (rule_Data.calls a0 a2 t105 _ A8.out).mono ?_); rintro e w' ⟨rfl, ⟨nd, rfl⟩⟩; refine ⟨_, rfl, ?_⟩))
   go_ret
   exact ⟨by first | rfl | (simp; done) | (simp [*]; done), by repeat (first | exact Drawn0.refl _ | apply Drawn0.step)⟩
  ·replace c7 := Bool.eq_false_iff.mpr c7
   subst c7
   have H1 : (some 0) = some r := by rw [if_neg (show ¬ (false = true) by decide)] at H; exact H
   clear H
   have H := H1
   clear H1
   obtain rfl := Option.some.inj H
   go_enter Try.func23, Try.ntmps23
   go_wp2_with (first | ((with_reducible refine gate_callee (f := 30) rfl ?_); refine goesL_ (some 9) rfl rfl Try.func30 (by kernel_rfl) rfl #[.int .i64 a0, .int .i64 a1] rfl (by (try simp only [List.map_toArray, List.map_cons, List.map_nil]); first | done | rfl | (simp only [List.length_drop, List.length_take]; rfl)) ?_; (with_reducible refine (rule_Check.calls a0 a1 t103 _ A4.out).mono ?_); rintro e w' ⟨rfl, ⟨nd, rfl⟩⟩; refine ⟨_, rfl, ?_⟩) | (go_at_call 31; (with_reducible refine (rule_paged.calls a2 false _ A6.out).mono ?_); rintro e w' ⟨rfl, ⟨nd, rfl⟩⟩))
   go_ret
   exact ⟨by first | rfl | (simp; done) | (simp [*]; done), by repeat (first | exact Drawn0.refl _ | apply Drawn0.step)⟩
 ·rw [if_neg c5] at H
  have c5b0 : (t103 == 0) = false := beq_eq_false_iff_ne.mpr c5
  have c5b1 : (t103 != 0) = true := bne_iff_ne.mpr c5
  obtain rfl := Option.some.inj H
  go_enter Try.func23, Try.ntmps23
  go_wp2_with (first | ((with_reducible refine gate_callee (f := 30) rfl ?_); refine goesL_ (some 9) rfl rfl Try.func30 (by kernel_rfl) rfl #[.int .i64 a0, .int .i64 a1] rfl (by (try simp only [List.map_toArray, List.map_cons, List.map_nil]); first | done | rfl | (simp only [List.length_drop, List.length_take]; rfl)) ?_; (with_reducible refine (rule_Check.calls a0 a1 t103 _ A4.out).mono ?_); rintro e w' ⟨rfl, ⟨nd, rfl⟩⟩; refine ⟨_, rfl, ?_⟩))
  go_ret
  exact ⟨by first | rfl | (simp; done) | (simp [*]; done), by repeat (first | exact Drawn0.refl _ | apply Drawn0.step)⟩
end Go.Proofs.Ytpcpllabegfdjaa.P
