-- Cut by a program of this session (wip/pr/pack.py) to what one claim needs.
import Derived.Test.YtpcpllabegfdjaaBXA
import Derived.Test.YtpcpllabegfdjaaBPx21
namespace Go.Proofs.Ytpcpllabegfdjaa.X
open Go.RowKit Go.Proofs.YtpcpllabegfdjaaW.PrintWords Go.Proofs.YtpcpllabegfdjaaW.PrintLast Go.Proofs.YtpcpllabegfdjaaW.PrintMore Go.Proofs.Ytpcpllabegfdjaa.P
attribute [local go_sem] max2_int min2_int max_two min_two max_three min_three max_four min_four
set_option linter.unusedVariables false
set_option linter.unusedSimpArgs false
def almshouseref41_Fullest.l0 : Nat → List (S42) → Int → List Int → List (List Int) → Int → Int → Option (List Int)
 | 0, _, _, _, _, _, _ => none
 | k + 1, x0, x2, x7, x18, x19, x20 => if x20 < x19 then (if 0 ≤ x20 then (if x20 < (x18.length : Int) then ((almshouseref41_Sum.f k x0 (rd_L2 x18 x20) x2).bind fun t117 => ((almshouseref41_Sum.f k x0 x7 x2).bind fun t118 => (if t117 > t118 then (almshouseref41_Fullest.l0 k x0 x2 (rd_L2 x18 x20) x18 x19 (wrap64 (x20 + 1))) else (if t117 = t118 then (if ((rd_L2 x18 x20).length : Int) < (x7.length : Int) then (almshouseref41_Fullest.l0 k x0 x2 (rd_L2 x18 x20) x18 x19 (wrap64 (x20 + 1))) else (if ((rd_L2 x18 x20).length : Int) = (x7.length : Int) then ((almshouseref41_ahead.f k (rd_L2 x18 x20) x7).bind fun t119 => (if t119 = true then (almshouseref41_Fullest.l0 k x0 x2 (rd_L2 x18 x20) x18 x19 (wrap64 (x20 + 1))) else (almshouseref41_Fullest.l0 k x0 x2 x7 x18 x19 (wrap64 (x20 + 1))))) else (almshouseref41_Fullest.l0 k x0 x2 x7 x18 x19 (wrap64 (x20 + 1))))) else (almshouseref41_Fullest.l0 k x0 x2 x7 x18 x19 (wrap64 (x20 + 1))))))) else (none)) else (none)) else (some x7)
def almshouseref41_Fullest.f (k : Nat) (l0 : List (S42)) (a1 : Int) (a2 : Int) : Option (List Int) := if (l0.length : Int) > 12 then (some ([] : List Int)) else ((almshouseref41_all.f k l0 a1 a2).bind fun t113 => (almshouseref41_Fullest.l0 k l0 a2 ([] : List Int) t113 (t113.length : Int) 0))
set_option maxHeartbeats 8000000 in
set_option maxRecDepth 100000 in
theorem almshouseref41_Fullest.calls (k : Nat) (A0 : Option Addr) (c0 : Nat) (l0 : List (S42)) (a1 : Int) (a2 : Int) (r : List Int) (w : World) (hr0 : Kd.C k42 w A0 l0.length l0) (hc0 : l0.length ≤ c0) (h : almshouseref41_Fullest.f k l0 a1 a2 = some r) :
  Calls Try.prog 8 #[.slice A0 l0.length c0, .int .i64 a1, .int .i64 a2] w fun e w' => ∃ v0_ : Value, e = .returned (v0_) ∧ Kd.R (Kd.int .i64) 3 w' w.heap.size (fun _ => True) v0_ r ∧ Below w.heap.size w w' := by
 have HR0 := Aside0.mk hr0
 have HC0 := Aside0.mk hc0
 clear hr0 hc0
 have HB := Aside0.mk (Below.refl w.heap.size w)
 have H : (if (l0.length : Int) > 12 then (some ([] : List Int)) else ((almshouseref41_all.f k l0 a1 a2).bind fun t113 => (almshouseref41_Fullest.l0 k l0 a2 ([] : List Int) t113 (t113.length : Int) 0))) = some r := h
 clear h
 by_cases c4 : (l0.length : Int) > 12
 ·rw [if_pos c4] at H
  have c4b0 : decide (12 < (l0.length : Int)) = true := decide_eq_true c4
  have c4b1 : decide (12 < l0.length) = true := decide_eq_true (by omega)
  clear c4
  obtain rfl := Option.some.inj H
  go_enter Try.func8, Try.ntmps8
  go_wp2
  go_ret
  exact ⟨_, by first | rfl | (simp [errW_none, errW_some] <;> rfl) | (simp [*, errW_none, errW_some] <;> rfl), by first | exact Kd.R_nil _ _ _ _ _ | exact Kd.N_nil _ _ _ _ _ | exact Kd.V_nil _ _ _ _ _ | exact Kd.Q_nil _ _ _ _ _ | exact Kd.S_nil _ _ _ _ _, by repeat (first | (with_reducible first | exact HB.out | apply below_alloc | apply pw_below_drewN | apply below_drew1) | exact HB.out)⟩
 ·rw [if_neg c4] at H
  have c4b0 : decide (12 < (l0.length : Int)) = false := decide_eq_false c4
  have c4b1 : decide (12 < l0.length) = false := decide_eq_false (by omega)
  clear c4
  replace H := Option.bind_eq_some_iff.mp H
  obtain ⟨t113, A50, H⟩ := H
  replace H : (almshouseref41_Fullest.l0 k l0 a2 ([] : List Int) t113 (t113.length : Int) 0) = some r := H
  have A5 := Aside0.mk A50
  clear A50
  have H' := Aside0.mk H
  clear H
  go_enter Try.func8, Try.ntmps8
  go_wp2_with (first | ((with_reducible refine gate_callee (f := 15) rfl ?_); refine goesL_ (some 18) rfl rfl Try.func15 (by kernel_rfl) rfl #[.slice A0 l0.length c0, .int .i64 a1, .int .i64 a2] rfl (by (try simp only [List.map_toArray, List.map_cons, List.map_nil]); first | done | rfl | (simp only [List.length_drop, List.length_take]; rfl)) ?_; (with_reducible refine (almshouseref41_all.calls k _ _ l0 a1 a2 t113 _ ?side1 ?side2 A5.out).mono ?_); (case side1 => repeat (first | exact HR0.out | (with_reducible refine Kd.C_alloc ?_ _) | (with_reducible refine Kd.C_drewN ?_ _) | (with_reducible refine Kd.C_drew ?_))); (case side2 => exact HC0.out); rintro e w6 ⟨v114, rfl, ho0, hb⟩; refine ⟨_, rfl, ?_⟩; have n0_ := Aside0.mk (Kd.S_lower ho0 (below_size (by repeat (first | (with_reducible first | exact HB.out | apply below_alloc | apply pw_below_drewN | apply below_drew1) | exact HB.out)))); have n1_ := Aside0.mk (below_step (by repeat (first | (with_reducible first | exact HB.out | apply below_alloc | apply pw_below_drewN | apply below_drew1) | exact HB.out)) hb); clear HB; have HO115 := n0_; have HB := n1_; clear n0_ n1_; (try clear hb); (try clear hb2); (try clear hk); (try clear hi); (try clear ho0); obtain ⟨Ao7, co7, eo7⟩ := Kd.S_slice HO115.out; subst eo7))
  go_loopg [7, 20] k (fun kq v7 v20 w' => ∃ (x7_1 : List Int) (x20_1 : Int), v20 = .int .i64 x20_1 ∧ Aside0 (almshouseref41_Fullest.l0 kq l0 a2 x7_1 t113 (t113.length : Int) x20_1 = some r) ∧ Aside0 (kq ≤ k) ∧ Aside0 (Kd.R (Kd.int .i64) 3 w' w.heap.size (fun _ => True) v7 x7_1) ∧ Aside0 (Kd.S (Kd.slice 3 (Kd.int .i64)) 25 w' w.heap.size (fun _ => True) (.slice Ao7 t113.length co7) t113) ∧ Aside0 (Below w.heap.size w w'))
  case atStart => exact ⟨(([] : List Int)), (0), (by first | rfl | (simp; done) | (simp [*]; done)), H', ⟨Nat.le_refl _⟩, ⟨by first | exact Kd.R_nil _ _ _ _ _ | exact Kd.N_nil _ _ _ _ _ | exact Kd.V_nil _ _ _ _ _ | exact Kd.Q_nil _ _ _ _ _ | exact Kd.S_nil _ _ _ _ _⟩, ⟨by (with_reducible repeat (first | apply Kd.S_alloc | apply Kd.S_drewN | apply Kd.S_drew)); exact Kd.S_mono HO115.out (fun _ _ => trivial)⟩, ⟨by repeat (first | (with_reducible first | exact HB.out | apply below_alloc | apply pw_below_drewN | apply below_drew1) | exact HB.out)⟩⟩
  case round =>
   clear H'
   try clear c1
   try clear p2
   try clear c4
   try clear c4b0
   try clear c4b1
   obtain ⟨x7_1, x20_1, rfl, HA, HK1, HO_7, HO_18, HB⟩ := hrel
   cases gk with
   | zero => exact absurd HA.out (by simp [almshouseref41_Fullest.l0])
   | succ k1 =>
    have H := HA.out
    clear HA
    simp only [almshouseref41_Fullest.l0] at H
    by_cases c8 : x20_1 < (t113.length : Int)
    ·rw [if_pos c8] at H
     have c8b0 : decide (x20_1 < (t113.length : Int)) = true := decide_eq_true c8
     clear c8
     (try simp only [hl116_0] at c8b0)
     by_cases c9 : 0 ≤ x20_1
     ·rw [if_pos c9] at H
      have c9b0 : decide (0 ≤ x20_1) = true := decide_eq_true c9
      clear c9
      by_cases c10 : x20_1 < (t113.length : Int)
      ·rw [if_pos c10] at H
       have c10b0 : decide (x20_1 < (t113.length : Int)) = true := decide_eq_true c10
       clear c10
       (try simp only [hl116_0] at c10b0)
       replace H := Option.bind_eq_some_iff.mp H
       obtain ⟨t117, A110, H⟩ := H
       replace H : ((almshouseref41_Sum.f k1 l0 x7_1 a2).bind fun t118 => (if t117 > t118 then (almshouseref41_Fullest.l0 k1 l0 a2 (rd_L2 t113 x20_1) t113 (t113.length : Int) (wrap64 (x20_1 + 1))) else (if t117 = t118 then (if ((rd_L2 t113 x20_1).length : Int) < (x7_1.length : Int) then (almshouseref41_Fullest.l0 k1 l0 a2 (rd_L2 t113 x20_1) t113 (t113.length : Int) (wrap64 (x20_1 + 1))) else (if ((rd_L2 t113 x20_1).length : Int) = (x7_1.length : Int) then ((almshouseref41_ahead.f k1 (rd_L2 t113 x20_1) x7_1).bind fun t119 => (if t119 = true then (almshouseref41_Fullest.l0 k1 l0 a2 (rd_L2 t113 x20_1) t113 (t113.length : Int) (wrap64 (x20_1 + 1))) else (almshouseref41_Fullest.l0 k1 l0 a2 x7_1 t113 (t113.length : Int) (wrap64 (x20_1 + 1))))) else (almshouseref41_Fullest.l0 k1 l0 a2 x7_1 t113 (t113.length : Int) (wrap64 (x20_1 + 1))))) else (almshouseref41_Fullest.l0 k1 l0 a2 x7_1 t113 (t113.length : Int) (wrap64 (x20_1 + 1)))))) = some r := H
       have A11 := Aside0.mk A110
       clear A110
       replace H := Option.bind_eq_some_iff.mp H
       obtain ⟨t118, A120, H⟩ := H
       replace H : (if t117 > t118 then (almshouseref41_Fullest.l0 k1 l0 a2 (rd_L2 t113 x20_1) t113 (t113.length : Int) (wrap64 (x20_1 + 1))) else (if t117 = t118 then (if ((rd_L2 t113 x20_1).length : Int) < (x7_1.length : Int) then (almshouseref41_Fullest.l0 k1 l0 a2 (rd_L2 t113 x20_1) t113 (t113.length : Int) (wrap64 (x20_1 + 1))) else (if ((rd_L2 t113 x20_1).length : Int) = (x7_1.length : Int) then ((almshouseref41_ahead.f k1 (rd_L2 t113 x20_1) x7_1).bind fun t119 => (if t119 = true then (almshouseref41_Fullest.l0 k1 l0 a2 (rd_L2 t113 x20_1) t113 (t113.length : Int) (wrap64 (x20_1 + 1))) else (almshouseref41_Fullest.l0 k1 l0 a2 x7_1 t113 (t113.length : Int) (wrap64 (x20_1 + 1))))) else (almshouseref41_Fullest.l0 k1 l0 a2 x7_1 t113 (t113.length : Int) (wrap64 (x20_1 + 1))))) else (almshouseref41_Fullest.l0 k1 l0 a2 x7_1 t113 (t113.length : Int) (wrap64 (x20_1 + 1))))) = some r := H
       have A12 := Aside0.mk A120
       clear A120
       by_cases c13 : t117 > t118
       ·rw [if_pos c13] at H
        have c13b0 : decide (t118 < t117) = true := decide_eq_true c13
        clear c13
        have H' := Aside0.mk H
        clear H
        have p116 : 0 ≤ (x20_1 : Int) := of_decide_eq_true (by first | (with_reducible assumption) | assumption)
        have q116 : x20_1 < (t113.length : Int) := of_decide_eq_true (by first | (with_reducible assumption) | assumption)
        obtain ⟨ad116, A116_0, c116_0, e116, hx116_0, hl116_0, hi116_0⟩ := at_L2 (Kd.S_reads' HO_18.out).2.2 x20_1 p116 q116
        cases e116
        obtain ⟨ce116, hce116, hMe116, hcc116⟩ := Kd.S_get HO_18.out [] x20_1 p116 (by first | exact q116 | exact of_decide_eq_true (by first | (with_reducible assumption) | assumption) | (have e_ := (Kd.S_reads' HO_18.out).1; omega))
        obtain ⟨ve116_0, rfl, ge116_0⟩ := hMe116
        have hv116_0 := hcc116 0 _ rfl
        rw [Nat.add_zero, show ((Kd.slice 3 (Kd.int .i64))).sz = 1 from rfl, Nat.mul_one] at hv116_0
        replace hv116_0 := Option.some.inj (hv116_0.symm.trans hx116_0)
        rw [hv116_0] at ge116_0
        have HL116_0 := Aside0.mk (show Kd.R (Kd.int .i64) 3 _ _ _ _ (rd_L2 t113 x20_1) from ge116_0)
        clear hv116_0 ge116_0
        clear hcc116 hce116
        have HR116_0 := Aside0.mk hi116_0
        have HC116_0 := Aside0.mk hl116_0
        clear hi116_0 hl116_0
        replace p116 := eq_true p116
        replace q116 := eq_true q116
        go_wp2_with (first | ((with_reducible refine gate_callee (f := 12) rfl ?_); refine goesL_ (some 27) rfl rfl Try.func12 (by kernel_rfl) rfl #[.slice A0 l0.length c0, .slice A116_0 (rd_L2 t113 x20_1).length c116_0, .int .i64 a2] rfl (by (try simp only [List.map_toArray, List.map_cons, List.map_nil]); first | done | rfl | (simp only [List.length_drop, List.length_take]; rfl)) ?_; (with_reducible refine (almshouseref41_Sum.calls k1 _ _ l0 _ _ (rd_L2 t113 x20_1) a2 t117 _ ?side1 ?side2 ?side3 ?side4 A11.out).mono ?_); (case side1 => repeat (first | exact (Kd.C_below HR0.out HB.out) | (with_reducible refine Kd.C_alloc ?_ _) | (with_reducible refine Kd.C_drewN ?_ _) | (with_reducible refine Kd.C_drew ?_))); (case side2 => exact HC0.out); (case side3 => repeat (first | exact (by repeat (first | (with_reducible exact HR116_0.out) | (with_reducible refine Kd.C_alloc ?_ _) | (with_reducible refine Kd.C_drewN ?_ _) | (with_reducible refine Kd.C_drew ?_) | exact HR116_0.out)) | (with_reducible refine Kd.C_alloc ?_ _) | (with_reducible refine Kd.C_drewN ?_ _) | (with_reducible refine Kd.C_drew ?_))); (case side4 => exact HC116_0.out); rintro e w14 ⟨rfl, hb⟩; refine ⟨_, rfl, ?_⟩; have n0_ := Aside0.mk (Kd.R_below (by (with_reducible repeat (first | apply Kd.R_alloc | apply Kd.R_drewN | apply Kd.R_drew)); exact HO_7.out) hb); have n1_ := Aside0.mk (Kd.S_below (by (with_reducible repeat (first | apply Kd.S_alloc | apply Kd.S_drewN | apply Kd.S_drew)); exact HO_18.out) hb); have n2_ := Aside0.mk (Kd.R_below (by (with_reducible repeat (first | apply Kd.R_alloc | apply Kd.R_drewN | apply Kd.R_drew)); exact HL116_0.out) hb); have n3_ := Aside0.mk (Kd.C_below (by repeat (first | (with_reducible exact HR116_0.out) | (with_reducible refine Kd.C_alloc ?_ _) | (with_reducible refine Kd.C_drewN ?_ _) | (with_reducible refine Kd.C_drew ?_) | exact HR116_0.out)) hb); have n4_ := Aside0.mk (below_step (by repeat (first | (with_reducible first | exact HB.out | apply below_alloc | apply pw_below_drewN | apply below_drew1) | exact HB.out)) hb); clear HO_7; clear HO_18; clear HL116_0; clear HR116_0; clear HB; have HO_7 := n0_; have HO_18 := n1_; have HL116_0 := n2_; have HR116_0 := n3_; have HB := n4_; clear n0_ n1_ n2_ n3_ n4_; (try clear hb); (try clear hb2); (try clear hk); (try clear hi); obtain ⟨Ao15, co15, eo15⟩ := Kd.R_slice HO_7.out; subst eo15) | ((with_reducible refine gate_callee (f := 12) rfl ?_); refine goesL_ (some 31) rfl rfl Try.func12 (by kernel_rfl) rfl #[.slice A0 l0.length c0, .slice Ao15 x7_1.length co15, .int .i64 a2] rfl (by (try simp only [List.map_toArray, List.map_cons, List.map_nil]); first | done | rfl | (simp only [List.length_drop, List.length_take]; rfl)) ?_; (with_reducible refine (almshouseref41_Sum.calls k1 _ _ l0 _ _ x7_1 a2 t118 _ ?side1 ?side2 ?side3 ?side4 A12.out).mono ?_); (case side1 => repeat (first | exact (Kd.C_below HR0.out HB.out) | (with_reducible refine Kd.C_alloc ?_ _) | (with_reducible refine Kd.C_drewN ?_ _) | (with_reducible refine Kd.C_drew ?_))); (case side2 => exact HC0.out); (case side3 => repeat (first | exact (Kd.R_reads' HO_7.out).2.2 | (with_reducible refine Kd.C_alloc ?_ _) | (with_reducible refine Kd.C_drewN ?_ _) | (with_reducible refine Kd.C_drew ?_))); (case side4 => exact (Kd.R_reads' HO_7.out).2.1); rintro e w16 ⟨rfl, hb⟩; refine ⟨_, rfl, ?_⟩; have n0_ := Aside0.mk (Kd.R_below (by (with_reducible repeat (first | apply Kd.R_alloc | apply Kd.R_drewN | apply Kd.R_drew)); exact HO_7.out) hb); have n1_ := Aside0.mk (Kd.S_below (by (with_reducible repeat (first | apply Kd.S_alloc | apply Kd.S_drewN | apply Kd.S_drew)); exact HO_18.out) hb); have n2_ := Aside0.mk (Kd.R_below (by (with_reducible repeat (first | apply Kd.R_alloc | apply Kd.R_drewN | apply Kd.R_drew)); exact HL116_0.out) hb); have n3_ := Aside0.mk (Kd.C_below (by repeat (first | (with_reducible exact HR116_0.out) | (with_reducible refine Kd.C_alloc ?_ _) | (with_reducible refine Kd.C_drewN ?_ _) | (with_reducible refine Kd.C_drew ?_) | exact HR116_0.out)) hb); have n4_ := Aside0.mk (below_step (by repeat (first | (with_reducible first | exact HB.out | apply below_alloc | apply pw_below_drewN | apply below_drew1) | exact HB.out)) hb); clear HO_7; clear HO_18; clear HL116_0; clear HR116_0; clear HB; have HO_7 := n0_; have HO_18 := n1_; have HL116_0 := n2_; have HR116_0 := n3_; have HB := n4_; clear n0_ n1_ n2_ n3_ n4_; (try clear hb); (try clear hb2); (try clear hk); (try clear hi)))
        go_roundg k1
        case measure => have := HK1.out; omega
        case rel => exact ⟨(rd_L2 t113 x20_1), (wrap64 (x20_1 + 1)), (by first | rfl | (simp; done) | (simp [*]; done)), H', ⟨by have := HK1.out; omega⟩, ⟨Kd.R_mono (by (with_reducible repeat (first | apply Kd.R_alloc | apply Kd.R_drewN | apply Kd.R_drew)); exact HL116_0.out) (fun _ _ => trivial)⟩, ⟨by (with_reducible repeat (first | apply Kd.S_alloc | apply Kd.S_drewN | apply Kd.S_drew)); exact Kd.S_mono HO_18.out (fun _ _ => trivial)⟩, ⟨by repeat (first | (with_reducible first | exact HB.out | apply below_alloc | apply pw_below_drewN | apply below_drew1) | exact HB.out)⟩⟩
       ·rw [if_neg c13] at H
        have c13b0 : decide (t118 < t117) = false := decide_eq_false c13
        clear c13
        by_cases c17 : t117 = t118
        ·rw [if_pos c17] at H
         have c17b0 : (t117 == t118) = true := beq_iff_eq.mpr c17
         have c17b1 : (t117 != t118) = false := bne_eq_false_iff_eq.mpr c17
         clear c17
         by_cases c18 : ((rd_L2 t113 x20_1).length : Int) < (x7_1.length : Int)
         ·rw [if_pos c18] at H
          have c18b0 : decide (((rd_L2 t113 x20_1).length : Int) < (x7_1.length : Int)) = true := decide_eq_true c18
          have c18b1 : decide ((rd_L2 t113 x20_1).length < x7_1.length) = true := decide_eq_true (Int.ofNat_lt.mp c18)
          clear c18
          have H' := Aside0.mk H
          clear H
          have p116 : 0 ≤ (x20_1 : Int) := of_decide_eq_true (by first | (with_reducible assumption) | assumption)
          have q116 : x20_1 < (t113.length : Int) := of_decide_eq_true (by first | (with_reducible assumption) | assumption)
          obtain ⟨ad116, A116_0, c116_0, e116, hx116_0, hl116_0, hi116_0⟩ := at_L2 (Kd.S_reads' HO_18.out).2.2 x20_1 p116 q116
          cases e116
          obtain ⟨ce116, hce116, hMe116, hcc116⟩ := Kd.S_get HO_18.out [] x20_1 p116 (by first | exact q116 | exact of_decide_eq_true (by first | (with_reducible assumption) | assumption) | (have e_ := (Kd.S_reads' HO_18.out).1; omega))
          obtain ⟨ve116_0, rfl, ge116_0⟩ := hMe116
          have hv116_0 := hcc116 0 _ rfl
          rw [Nat.add_zero, show ((Kd.slice 3 (Kd.int .i64))).sz = 1 from rfl, Nat.mul_one] at hv116_0
          replace hv116_0 := Option.some.inj (hv116_0.symm.trans hx116_0)
          rw [hv116_0] at ge116_0
          have HL116_0 := Aside0.mk (show Kd.R (Kd.int .i64) 3 _ _ _ _ (rd_L2 t113 x20_1) from ge116_0)
          clear hv116_0 ge116_0
          clear hcc116 hce116
          have HR116_0 := Aside0.mk hi116_0
          have HC116_0 := Aside0.mk hl116_0
          clear hi116_0 hl116_0
          replace p116 := eq_true p116
          replace q116 := eq_true q116
          go_wp2_with (first | ((with_reducible refine gate_callee (f := 12) rfl ?_); refine goesL_ (some 27) rfl rfl Try.func12 (by kernel_rfl) rfl #[.slice A0 l0.length c0, .slice A116_0 (rd_L2 t113 x20_1).length c116_0, .int .i64 a2] rfl (by (try simp only [List.map_toArray, List.map_cons, List.map_nil]); first | done | rfl | (simp only [List.length_drop, List.length_take]; rfl)) ?_; (with_reducible refine (almshouseref41_Sum.calls k1 _ _ l0 _ _ (rd_L2 t113 x20_1) a2 t117 _ ?side1 ?side2 ?side3 ?side4 A11.out).mono ?_); (case side1 => repeat (first | exact (Kd.C_below HR0.out HB.out) | (with_reducible refine Kd.C_alloc ?_ _) | (with_reducible refine Kd.C_drewN ?_ _) | (with_reducible refine Kd.C_drew ?_))); (case side2 => exact HC0.out); (case side3 => repeat (first | exact (by repeat (first | (with_reducible exact HR116_0.out) | (with_reducible refine Kd.C_alloc ?_ _) | (with_reducible refine Kd.C_drewN ?_ _) | (with_reducible refine Kd.C_drew ?_) | exact HR116_0.out)) | (with_reducible refine Kd.C_alloc ?_ _) | (with_reducible refine Kd.C_drewN ?_ _) | (with_reducible refine Kd.C_drew ?_))); (case side4 => exact HC116_0.out); rintro e w19 ⟨rfl, hb⟩; refine ⟨_, rfl, ?_⟩; have n0_ := Aside0.mk (Kd.R_below (by (with_reducible repeat (first | apply Kd.R_alloc | apply Kd.R_drewN | apply Kd.R_drew)); exact HO_7.out) hb); have n1_ := Aside0.mk (Kd.S_below (by (with_reducible repeat (first | apply Kd.S_alloc | apply Kd.S_drewN | apply Kd.S_drew)); exact HO_18.out) hb); have n2_ := Aside0.mk (Kd.R_below (by (with_reducible repeat (first | apply Kd.R_alloc | apply Kd.R_drewN | apply Kd.R_drew)); exact HL116_0.out) hb); have n3_ := Aside0.mk (Kd.C_below (by repeat (first | (with_reducible exact HR116_0.out) | (with_reducible refine Kd.C_alloc ?_ _) | (with_reducible refine Kd.C_drewN ?_ _) | (with_reducible refine Kd.C_drew ?_) | exact HR116_0.out)) hb); have n4_ := Aside0.mk (below_step (by repeat (first | (with_reducible first | exact HB.out | apply below_alloc | apply pw_below_drewN | apply below_drew1) | exact HB.out)) hb); clear HO_7; clear HO_18; clear HL116_0; clear HR116_0; clear HB; have HO_7 := n0_; have HO_18 := n1_; have HL116_0 := n2_; have HR116_0 := n3_; have HB := n4_; clear n0_ n1_ n2_ n3_ n4_; (try clear hb); (try clear hb2); (try clear hk); (try clear hi); obtain ⟨Ao20, co20, eo20⟩ := Kd.R_slice HO_7.out; subst eo20) | ((with_reducible refine gate_callee (f := 12) rfl ?_); refine goesL_ (some 31) rfl rfl Try.func12 (by kernel_rfl) rfl #[.slice A0 l0.length c0, .slice Ao20 x7_1.length co20, .int .i64 a2] rfl (by (try simp only [List.map_toArray, List.map_cons, List.map_nil]); first | done | rfl | (simp only [List.length_drop, List.length_take]; rfl)) ?_; (with_reducible refine (almshouseref41_Sum.calls k1 _ _ l0 _ _ x7_1 a2 t118 _ ?side1 ?side2 ?side3 ?side4 A12.out).mono ?_); (case side1 => repeat (first | exact (Kd.C_below HR0.out HB.out) | (with_reducible refine Kd.C_alloc ?_ _) | (with_reducible refine Kd.C_drewN ?_ _) | (with_reducible refine Kd.C_drew ?_))); (case side2 => exact HC0.out); (case side3 => repeat (first | exact (Kd.R_reads' HO_7.out).2.2 | (with_reducible refine Kd.C_alloc ?_ _) | (with_reducible refine Kd.C_drewN ?_ _) | (with_reducible refine Kd.C_drew ?_))); (case side4 => exact (Kd.R_reads' HO_7.out).2.1); rintro e w21 ⟨rfl, hb⟩; refine ⟨_, rfl, ?_⟩; have n0_ := Aside0.mk (Kd.R_below (by (with_reducible repeat (first | apply Kd.R_alloc | apply Kd.R_drewN | apply Kd.R_drew)); exact HO_7.out) hb); have n1_ := Aside0.mk (Kd.S_below (by (with_reducible repeat (first | apply Kd.S_alloc | apply Kd.S_drewN | apply Kd.S_drew)); exact HO_18.out) hb); have n2_ := Aside0.mk (Kd.R_below (by (with_reducible repeat (first | apply Kd.R_alloc | apply Kd.R_drewN | apply Kd.R_drew)); exact HL116_0.out) hb); have n3_ := Aside0.mk (Kd.C_below (by repeat (first | (with_reducible exact HR116_0.out) | (with_reducible refine Kd.C_alloc ?_ _) | (with_reducible refine Kd.C_drewN ?_ _) | (with_reducible refine Kd.C_drew ?_) | exact HR116_0.out)) hb); have n4_ := Aside0.mk (below_step (by repeat (first | (with_reducible first | exact HB.out | apply below_alloc | apply pw_below_drewN | apply below_drew1) | exact HB.out)) hb); clear HO_7; clear HO_18; clear HL116_0; clear HR116_0; clear HB; have HO_7 := n0_; have HO_18 := n1_; have HL116_0 := n2_; have HR116_0 := n3_; have HB := n4_; clear n0_ n1_ n2_ n3_ n4_; (try clear hb); (try clear hb2); (try clear hk); (try clear hi)))
          go_roundg k1
          case measure => have := HK1.out; omega
          case rel => exact ⟨(rd_L2 t113 x20_1), (wrap64 (x20_1 + 1)), (by first | rfl | (simp; done) | (simp [*]; done)), H', ⟨by have := HK1.out; omega⟩, ⟨Kd.R_mono (by (with_reducible repeat (first | apply Kd.R_alloc | apply Kd.R_drewN | apply Kd.R_drew)); exact HL116_0.out) (fun _ _ => trivial)⟩, ⟨by (with_reducible repeat (first | apply Kd.S_alloc | apply Kd.S_drewN | apply Kd.S_drew)); exact Kd.S_mono HO_18.out (fun _ _ => trivial)⟩, ⟨by repeat (first | (with_reducible first | exact HB.out | apply below_alloc | apply pw_below_drewN | apply below_drew1) | exact HB.out)⟩⟩
         ·rw [if_neg c18] at H
          have c18b0 : decide (((rd_L2 t113 x20_1).length : Int) < (x7_1.length : Int)) = false := decide_eq_false c18
          have c18b1 : decide ((rd_L2 t113 x20_1).length < x7_1.length) = false := decide_eq_false (fun h => c18 (Int.ofNat_lt.mpr h))
          clear c18
          by_cases c22 : ((rd_L2 t113 x20_1).length : Int) = (x7_1.length : Int)
          ·rw [if_pos c22] at H
           have c22b0 : (((rd_L2 t113 x20_1).length : Int) == (x7_1.length : Int)) = true := beq_iff_eq.mpr c22
           have c22b1 : (((rd_L2 t113 x20_1).length : Int) != (x7_1.length : Int)) = false := bne_eq_false_iff_eq.mpr c22
           have c22b2 : ((rd_L2 t113 x20_1).length == x7_1.length) = true := by first | simpa using c22 | (simp at c22 ⊢; omega)
           clear c22
           replace H := Option.bind_eq_some_iff.mp H
           obtain ⟨t119, A230, H⟩ := H
           replace H : (if t119 = true then (almshouseref41_Fullest.l0 k1 l0 a2 (rd_L2 t113 x20_1) t113 (t113.length : Int) (wrap64 (x20_1 + 1))) else (almshouseref41_Fullest.l0 k1 l0 a2 x7_1 t113 (t113.length : Int) (wrap64 (x20_1 + 1)))) = some r := H
           have A23 := Aside0.mk A230
           clear A230
           by_cases c24 : t119 = true
           ·subst c24
            have H1 : (almshouseref41_Fullest.l0 k1 l0 a2 (rd_L2 t113 x20_1) t113 (t113.length : Int) (wrap64 (x20_1 + 1))) = some r := by rw [if_pos rfl] at H; exact H
            clear H
            have H := H1
            clear H1
            have H' := Aside0.mk H
            clear H
            have p116 : 0 ≤ (x20_1 : Int) := of_decide_eq_true (by first | (with_reducible assumption) | assumption)
            have q116 : x20_1 < (t113.length : Int) := of_decide_eq_true (by first | (with_reducible assumption) | assumption)
            obtain ⟨ad116, A116_0, c116_0, e116, hx116_0, hl116_0, hi116_0⟩ := at_L2 (Kd.S_reads' HO_18.out).2.2 x20_1 p116 q116
            cases e116
            obtain ⟨ce116, hce116, hMe116, hcc116⟩ := Kd.S_get HO_18.out [] x20_1 p116 (by first | exact q116 | exact of_decide_eq_true (by first | (with_reducible assumption) | assumption) | (have e_ := (Kd.S_reads' HO_18.out).1; omega))
            obtain ⟨ve116_0, rfl, ge116_0⟩ := hMe116
            have hv116_0 := hcc116 0 _ rfl
            rw [Nat.add_zero, show ((Kd.slice 3 (Kd.int .i64))).sz = 1 from rfl, Nat.mul_one] at hv116_0
            replace hv116_0 := Option.some.inj (hv116_0.symm.trans hx116_0)
            rw [hv116_0] at ge116_0
            have HL116_0 := Aside0.mk (show Kd.R (Kd.int .i64) 3 _ _ _ _ (rd_L2 t113 x20_1) from ge116_0)
            clear hv116_0 ge116_0
            clear hcc116 hce116
            have HR116_0 := Aside0.mk hi116_0
            have HC116_0 := Aside0.mk hl116_0
            clear hi116_0 hl116_0
            replace p116 := eq_true p116
            replace q116 := eq_true q116
            go_wp2_with (first | ((with_reducible refine gate_callee (f := 12) rfl ?_); refine goesL_ (some 27) rfl rfl Try.func12 (by kernel_rfl) rfl #[.slice A0 l0.length c0, .slice A116_0 (rd_L2 t113 x20_1).length c116_0, .int .i64 a2] rfl (by (try simp only [List.map_toArray, List.map_cons, List.map_nil]); first | done | rfl | (simp only [List.length_drop, List.length_take]; rfl)) ?_; (with_reducible refine (almshouseref41_Sum.calls k1 _ _ l0 _ _ (rd_L2 t113 x20_1) a2 t117 _ ?side1 ?side2 ?side3 ?side4 A11.out).mono ?_); (case side1 => repeat (first | exact (Kd.C_below HR0.out HB.out) | (with_reducible refine Kd.C_alloc ?_ _) | (with_reducible refine Kd.C_drewN ?_ _) | (with_reducible refine Kd.C_drew ?_))); (case side2 => exact HC0.out); (case side3 => repeat (first | exact (by repeat (first | (with_reducible exact HR116_0.out) | (with_reducible refine Kd.C_alloc ?_ _) | (with_reducible refine Kd.C_drewN ?_ _) | (with_reducible refine Kd.C_drew ?_) | exact HR116_0.out)) | (with_reducible refine Kd.C_alloc ?_ _) | (with_reducible refine Kd.C_drewN ?_ _) | (with_reducible refine Kd.C_drew ?_))); (case side4 => exact HC116_0.out); rintro e w25 ⟨rfl, hb⟩; refine ⟨_, rfl, ?_⟩; have n0_ := Aside0.mk (Kd.R_below (by (with_reducible repeat (first | apply Kd.R_alloc | apply Kd.R_drewN | apply Kd.R_drew)); exact HO_7.out) hb); have n1_ := Aside0.mk (Kd.S_below (by (with_reducible repeat (first | apply Kd.S_alloc | apply Kd.S_drewN | apply Kd.S_drew)); exact HO_18.out) hb); have n2_ := Aside0.mk (Kd.R_below (by (with_reducible repeat (first | apply Kd.R_alloc | apply Kd.R_drewN | apply Kd.R_drew)); exact HL116_0.out) hb); have n3_ := Aside0.mk (Kd.C_below (by repeat (first | (with_reducible exact HR116_0.out) | (with_reducible refine Kd.C_alloc ?_ _) | (with_reducible refine Kd.C_drewN ?_ _) | (with_reducible refine Kd.C_drew ?_) | exact HR116_0.out)) hb); have n4_ := Aside0.mk (below_step (by repeat (first | (with_reducible first | exact HB.out | apply below_alloc | apply pw_below_drewN | apply below_drew1) | exact HB.out)) hb); clear HO_7; clear HO_18; clear HL116_0; clear HR116_0; clear HB; have HO_7 := n0_; have HO_18 := n1_; have HL116_0 := n2_; have HR116_0 := n3_; have HB := n4_; clear n0_ n1_ n2_ n3_ n4_; (try clear hb); (try clear hb2); (try clear hk); (try clear hi); obtain ⟨Ao26, co26, eo26⟩ := Kd.R_slice HO_7.out; subst eo26) | ((with_reducible refine gate_callee (f := 12) rfl ?_); refine goesL_ (some 31) rfl rfl Try.func12 (by kernel_rfl) rfl #[.slice A0 l0.length c0, .slice Ao26 x7_1.length co26, .int .i64 a2] rfl (by (try simp only [List.map_toArray, List.map_cons, List.map_nil]); first | done | rfl | (simp only [List.length_drop, List.length_take]; rfl)) ?_; (with_reducible refine (almshouseref41_Sum.calls k1 _ _ l0 _ _ x7_1 a2 t118 _ ?side1 ?side2 ?side3 ?side4 A12.out).mono ?_); (case side1 => repeat (first | exact (Kd.C_below HR0.out HB.out) | (with_reducible refine Kd.C_alloc ?_ _) | (with_reducible refine Kd.C_drewN ?_ _) | (with_reducible refine Kd.C_drew ?_))); (case side2 => exact HC0.out); (case side3 => repeat (first | exact (Kd.R_reads' HO_7.out).2.2 | (with_reducible refine Kd.C_alloc ?_ _) | (with_reducible refine Kd.C_drewN ?_ _) | (with_reducible refine Kd.C_drew ?_))); (case side4 => exact (Kd.R_reads' HO_7.out).2.1); rintro e w27 ⟨rfl, hb⟩; refine ⟨_, rfl, ?_⟩; have n0_ := Aside0.mk (Kd.R_below (by (with_reducible repeat (first | apply Kd.R_alloc | apply Kd.R_drewN | apply Kd.R_drew)); exact HO_7.out) hb); have n1_ := Aside0.mk (Kd.S_below (by (with_reducible repeat (first | apply Kd.S_alloc | apply Kd.S_drewN | apply Kd.S_drew)); exact HO_18.out) hb); have n2_ := Aside0.mk (Kd.R_below (by (with_reducible repeat (first | apply Kd.R_alloc | apply Kd.R_drewN | apply Kd.R_drew)); exact HL116_0.out) hb); have n3_ := Aside0.mk (Kd.C_below (by repeat (first | (with_reducible exact HR116_0.out) | (with_reducible refine Kd.C_alloc ?_ _) | (with_reducible refine Kd.C_drewN ?_ _) | (with_reducible refine Kd.C_drew ?_) | exact HR116_0.out)) hb); have n4_ := Aside0.mk (below_step (by repeat (first | (with_reducible first | exact HB.out | apply below_alloc | apply pw_below_drewN | apply below_drew1) | exact HB.out)) hb); clear HO_7; clear HO_18; clear HL116_0; clear HR116_0; clear HB; have HO_7 := n0_; have HO_18 := n1_; have HL116_0 := n2_; have HR116_0 := n3_; have HB := n4_; clear n0_ n1_ n2_ n3_ n4_; (try clear hb); (try clear hb2); (try clear hk); (try clear hi)) | (go_at_call 16; (with_reducible refine (almshouseref41_ahead.calls k1 _ _ (rd_L2 t113 x20_1) _ _ x7_1 true _ ?side1 ?side2 ?side3 ?side4 A23.out).mono ?_); (case side1 => repeat (first | exact (by repeat (first | (with_reducible exact HR116_0.out) | (with_reducible refine Kd.C_alloc ?_ _) | (with_reducible refine Kd.C_drewN ?_ _) | (with_reducible refine Kd.C_drew ?_) | exact HR116_0.out)) | (with_reducible refine Kd.C_alloc ?_ _) | (with_reducible refine Kd.C_drewN ?_ _) | (with_reducible refine Kd.C_drew ?_))); (case side2 => exact HC116_0.out); (case side3 => repeat (first | exact (Kd.R_reads' HO_7.out).2.2 | (with_reducible refine Kd.C_alloc ?_ _) | (with_reducible refine Kd.C_drewN ?_ _) | (with_reducible refine Kd.C_drew ?_))); (case side4 => exact (Kd.R_reads' HO_7.out).2.1); rintro e w' ⟨rfl, ⟨nd, rfl⟩⟩))
            go_roundg k1
            case measure => have := HK1.out; omega
            case rel => exact ⟨(rd_L2 t113 x20_1), (wrap64 (x20_1 + 1)), (by first | rfl | (simp; done) | (simp [*]; done)), H', ⟨by have := HK1.out; omega⟩, ⟨Kd.R_mono (by (with_reducible repeat (first | apply Kd.R_alloc | apply Kd.R_drewN | apply Kd.R_drew)); exact HL116_0.out) (fun _ _ => trivial)⟩, ⟨by (with_reducible repeat (first | apply Kd.S_alloc | apply Kd.S_drewN | apply Kd.S_drew)); exact Kd.S_mono HO_18.out (fun _ _ => trivial)⟩, ⟨by repeat (first | (with_reducible first | exact HB.out | apply below_alloc | apply pw_below_drewN | apply below_drew1) | exact HB.out)⟩⟩
           ·replace c24 := Bool.eq_false_iff.mpr c24
            subst c24
            have H1 : (almshouseref41_Fullest.l0 k1 l0 a2 x7_1 t113 (t113.length : Int) (wrap64 (x20_1 + 1))) = some r := by rw [if_neg (show ¬ (false = true) by decide)] at H; exact H
            clear H
            have H := H1
            clear H1
            have H' := Aside0.mk H
            clear H
            have p116 : 0 ≤ (x20_1 : Int) := of_decide_eq_true (by first | (with_reducible assumption) | assumption)
            have q116 : x20_1 < (t113.length : Int) := of_decide_eq_true (by first | (with_reducible assumption) | assumption)
            obtain ⟨ad116, A116_0, c116_0, e116, hx116_0, hl116_0, hi116_0⟩ := at_L2 (Kd.S_reads' HO_18.out).2.2 x20_1 p116 q116
            cases e116
            obtain ⟨ce116, hce116, hMe116, hcc116⟩ := Kd.S_get HO_18.out [] x20_1 p116 (by first | exact q116 | exact of_decide_eq_true (by first | (with_reducible assumption) | assumption) | (have e_ := (Kd.S_reads' HO_18.out).1; omega))
            obtain ⟨ve116_0, rfl, ge116_0⟩ := hMe116
            have hv116_0 := hcc116 0 _ rfl
            rw [Nat.add_zero, show ((Kd.slice 3 (Kd.int .i64))).sz = 1 from rfl, Nat.mul_one] at hv116_0
            replace hv116_0 := Option.some.inj (hv116_0.symm.trans hx116_0)
            rw [hv116_0] at ge116_0
            have HL116_0 := Aside0.mk (show Kd.R (Kd.int .i64) 3 _ _ _ _ (rd_L2 t113 x20_1) from ge116_0)
            clear hv116_0 ge116_0
            clear hcc116 hce116
            have HR116_0 := Aside0.mk hi116_0
            have HC116_0 := Aside0.mk hl116_0
            clear hi116_0 hl116_0
            replace p116 := eq_true p116
            replace q116 := eq_true q116
            go_wp2_with (first | ((with_reducible refine gate_callee (f := 12) rfl ?_); refine goesL_ (some 27) rfl rfl Try.func12 (by kernel_rfl) rfl #[.slice A0 l0.length c0, .slice A116_0 (rd_L2 t113 x20_1).length c116_0, .int .i64 a2] rfl (by (try simp only [List.map_toArray, List.map_cons, List.map_nil]); first | done | rfl | (simp only [List.length_drop, List.length_take]; rfl)) ?_; (with_reducible refine (almshouseref41_Sum.calls k1 _ _ l0 _ _ (rd_L2 t113 x20_1) a2 t117 _ ?side1 ?side2 ?side3 ?side4 A11.out).mono ?_); (case side1 => repeat (first | exact (Kd.C_below HR0.out HB.out) | (with_reducible refine Kd.C_alloc ?_ _) | (with_reducible refine Kd.C_drewN ?_ _) | (with_reducible refine Kd.C_drew ?_))); (case side2 => exact HC0.out); (case side3 => repeat (first | exact (by repeat (first | (with_reducible exact HR116_0.out) | (with_reducible refine Kd.C_alloc ?_ _) | (with_reducible refine Kd.C_drewN ?_ _) | (with_reducible refine Kd.C_drew ?_) | exact HR116_0.out)) | (with_reducible refine Kd.C_alloc ?_ _) | (with_reducible refine Kd.C_drewN ?_ _) | (with_reducible refine Kd.C_drew ?_))); (case side4 => exact HC116_0.out); rintro e w28 ⟨rfl, hb⟩; refine ⟨_, rfl, ?_⟩; have n0_ := Aside0.mk (Kd.R_below (by (with_reducible repeat (first | apply Kd.R_alloc | apply Kd.R_drewN | apply Kd.R_drew)); exact HO_7.out) hb); have n1_ := Aside0.mk (Kd.S_below (by (with_reducible repeat (first | apply Kd.S_alloc | apply Kd.S_drewN | apply Kd.S_drew)); exact HO_18.out) hb); have n2_ := Aside0.mk (Kd.R_below (by (with_reducible repeat (first | apply Kd.R_alloc | apply Kd.R_drewN | apply Kd.R_drew)); exact HL116_0.out) hb); have n3_ := Aside0.mk (Kd.C_below (by repeat (first | (with_reducible exact HR116_0.out) | (with_reducible refine Kd.C_alloc ?_ _) | (with_reducible refine Kd.C_drewN ?_ _) | (with_reducible refine Kd.C_drew ?_) | exact HR116_0.out)) hb); have n4_ := Aside0.mk (below_step (by repeat (first | (with_reducible first | exact HB.out | apply below_alloc | apply pw_below_drewN | apply below_drew1) | exact HB.out)) hb); clear HO_7; clear HO_18; clear HL116_0; clear HR116_0; clear HB; have HO_7 := n0_; have HO_18 := n1_; have HL116_0 := n2_; have HR116_0 := n3_; have HB := n4_; clear n0_ n1_ n2_ n3_ n4_; (try clear hb); (try clear hb2); (try clear hk); (try clear hi); obtain ⟨Ao29, co29, eo29⟩ := Kd.R_slice HO_7.out; subst eo29) | ((with_reducible refine gate_callee (f := 12) rfl ?_); refine goesL_ (some 31) rfl rfl Try.func12 (by kernel_rfl) rfl #[.slice A0 l0.length c0, .slice Ao29 x7_1.length co29, .int .i64 a2] rfl (by (try simp only [List.map_toArray, List.map_cons, List.map_nil]); first | done | rfl | (simp only [List.length_drop, List.length_take]; rfl)) ?_; (with_reducible refine (almshouseref41_Sum.calls k1 _ _ l0 _ _ x7_1 a2 t118 _ ?side1 ?side2 ?side3 ?side4 A12.out).mono ?_); (case side1 => repeat (first | exact (Kd.C_below HR0.out HB.out) | (with_reducible refine Kd.C_alloc ?_ _) | (with_reducible refine Kd.C_drewN ?_ _) | (with_reducible refine Kd.C_drew ?_))); (case side2 => exact HC0.out); (case side3 => repeat (first | exact (Kd.R_reads' HO_7.out).2.2 | (with_reducible refine Kd.C_alloc ?_ _) | (with_reducible refine Kd.C_drewN ?_ _) | (with_reducible refine Kd.C_drew ?_))); (case side4 => exact (Kd.R_reads' HO_7.out).2.1); rintro e w30 ⟨rfl, hb⟩; refine ⟨_, rfl, ?_⟩; have n0_ := Aside0.mk (Kd.R_below (by (with_reducible repeat (first | apply Kd.R_alloc | apply Kd.R_drewN | apply Kd.R_drew)); exact HO_7.out) hb); have n1_ := Aside0.mk (Kd.S_below (by (with_reducible repeat (first | apply Kd.S_alloc | apply Kd.S_drewN | apply Kd.S_drew)); exact HO_18.out) hb); have n2_ := Aside0.mk (Kd.R_below (by (with_reducible repeat (first | apply Kd.R_alloc | apply Kd.R_drewN | apply Kd.R_drew)); exact HL116_0.out) hb); have n3_ := Aside0.mk (Kd.C_below (by repeat (first | (with_reducible exact HR116_0.out) | (with_reducible refine Kd.C_alloc ?_ _) | (with_reducible refine Kd.C_drewN ?_ _) | (with_reducible refine Kd.C_drew ?_) | exact HR116_0.out)) hb); have n4_ := Aside0.mk (below_step (by repeat (first | (with_reducible first | exact HB.out | apply below_alloc | apply pw_below_drewN | apply below_drew1) | exact HB.out)) hb); clear HO_7; clear HO_18; clear HL116_0; clear HR116_0; clear HB; have HO_7 := n0_; have HO_18 := n1_; have HL116_0 := n2_; have HR116_0 := n3_; have HB := n4_; clear n0_ n1_ n2_ n3_ n4_; (try clear hb); (try clear hb2); (try clear hk); (try clear hi)) | (go_at_call 16; (with_reducible refine (almshouseref41_ahead.calls k1 _ _ (rd_L2 t113 x20_1) _ _ x7_1 false _ ?side1 ?side2 ?side3 ?side4 A23.out).mono ?_); (case side1 => repeat (first | exact (by repeat (first | (with_reducible exact HR116_0.out) | (with_reducible refine Kd.C_alloc ?_ _) | (with_reducible refine Kd.C_drewN ?_ _) | (with_reducible refine Kd.C_drew ?_) | exact HR116_0.out)) | (with_reducible refine Kd.C_alloc ?_ _) | (with_reducible refine Kd.C_drewN ?_ _) | (with_reducible refine Kd.C_drew ?_))); (case side2 => exact HC116_0.out); (case side3 => repeat (first | exact (Kd.R_reads' HO_7.out).2.2 | (with_reducible refine Kd.C_alloc ?_ _) | (with_reducible refine Kd.C_drewN ?_ _) | (with_reducible refine Kd.C_drew ?_))); (case side4 => exact (Kd.R_reads' HO_7.out).2.1); rintro e w' ⟨rfl, ⟨nd, rfl⟩⟩))
            go_roundg k1
            case measure => have := HK1.out; omega
            case rel => exact ⟨(x7_1), (wrap64 (x20_1 + 1)), (by first | rfl | (simp; done) | (simp [*]; done)), H', ⟨by have := HK1.out; omega⟩, ⟨by (with_reducible repeat (first | apply Kd.R_alloc | apply Kd.R_drewN | apply Kd.R_drew)); exact HO_7.out⟩, ⟨by (with_reducible repeat (first | apply Kd.S_alloc | apply Kd.S_drewN | apply Kd.S_drew)); exact HO_18.out⟩, ⟨by repeat (first | (with_reducible first | exact HB.out | apply below_alloc | apply pw_below_drewN | apply below_drew1) | exact HB.out)⟩⟩
          ·rw [if_neg c22] at H
           have c22b0 : (((rd_L2 t113 x20_1).length : Int) == (x7_1.length : Int)) = false := beq_eq_false_iff_ne.mpr c22
           have c22b1 : (((rd_L2 t113 x20_1).length : Int) != (x7_1.length : Int)) = true := bne_iff_ne.mpr c22
           have c22b2 : ((rd_L2 t113 x20_1).length == x7_1.length) = false := by first | simpa using c22 | (simp at c22 ⊢; omega)
           have H' := Aside0.mk H
           clear H
           have p116 : 0 ≤ (x20_1 : Int) := of_decide_eq_true (by first | (with_reducible assumption) | assumption)
           have q116 : x20_1 < (t113.length : Int) := of_decide_eq_true (by first | (with_reducible assumption) | assumption)
           obtain ⟨ad116, A116_0, c116_0, e116, hx116_0, hl116_0, hi116_0⟩ := at_L2 (Kd.S_reads' HO_18.out).2.2 x20_1 p116 q116
           cases e116
           obtain ⟨ce116, hce116, hMe116, hcc116⟩ := Kd.S_get HO_18.out [] x20_1 p116 (by first | exact q116 | exact of_decide_eq_true (by first | (with_reducible assumption) | assumption) | (have e_ := (Kd.S_reads' HO_18.out).1; omega))
           obtain ⟨ve116_0, rfl, ge116_0⟩ := hMe116
           have hv116_0 := hcc116 0 _ rfl
           rw [Nat.add_zero, show ((Kd.slice 3 (Kd.int .i64))).sz = 1 from rfl, Nat.mul_one] at hv116_0
           replace hv116_0 := Option.some.inj (hv116_0.symm.trans hx116_0)
           rw [hv116_0] at ge116_0
           have HL116_0 := Aside0.mk (show Kd.R (Kd.int .i64) 3 _ _ _ _ (rd_L2 t113 x20_1) from ge116_0)
           clear hv116_0 ge116_0
           clear hcc116 hce116
           have HR116_0 := Aside0.mk hi116_0
           have HC116_0 := Aside0.mk hl116_0
           clear hi116_0 hl116_0
           replace p116 := eq_true p116
           replace q116 := eq_true q116
           go_wp2_with (first | ((with_reducible refine gate_callee (f := 12) rfl ?_); refine goesL_ (some 27) rfl rfl Try.func12 (by kernel_rfl) rfl #[.slice A0 l0.length c0, .slice A116_0 (rd_L2 t113 x20_1).length c116_0, .int .i64 a2] rfl (by (try simp only [List.map_toArray, List.map_cons, List.map_nil]); first | done | rfl | (simp only [List.length_drop, List.length_take]; rfl)) ?_; (with_reducible refine (almshouseref41_Sum.calls k1 _ _ l0 _ _ (rd_L2 t113 x20_1) a2 t117 _ ?side1 ?side2 ?side3 ?side4 A11.out).mono ?_); (case side1 => repeat (first | exact (Kd.C_below HR0.out HB.out) | (with_reducible refine Kd.C_alloc ?_ _) | (with_reducible refine Kd.C_drewN ?_ _) | (with_reducible refine Kd.C_drew ?_))); (case side2 => exact HC0.out); (case side3 => repeat (first | exact (by repeat (first | (with_reducible exact HR116_0.out) | (with_reducible refine Kd.C_alloc ?_ _) | (with_reducible refine Kd.C_drewN ?_ _) | (with_reducible refine Kd.C_drew ?_) | exact HR116_0.out)) | (with_reducible refine Kd.C_alloc ?_ _) | (with_reducible refine Kd.C_drewN ?_ _) | (with_reducible refine Kd.C_drew ?_))); (case side4 => exact HC116_0.out); rintro e w31 ⟨rfl, hb⟩; refine ⟨_, rfl, ?_⟩; have n0_ := Aside0.mk (Kd.R_below (by (with_reducible repeat (first | apply Kd.R_alloc | apply Kd.R_drewN | apply Kd.R_drew)); exact HO_7.out) hb); have n1_ := Aside0.mk (Kd.S_below (by (with_reducible repeat (first | apply Kd.S_alloc | apply Kd.S_drewN | apply Kd.S_drew)); exact HO_18.out) hb); have n2_ := Aside0.mk (Kd.R_below (by (with_reducible repeat (first | apply Kd.R_alloc | apply Kd.R_drewN | apply Kd.R_drew)); exact HL116_0.out) hb); have n3_ := Aside0.mk (Kd.C_below (by repeat (first | (with_reducible exact HR116_0.out) | (with_reducible refine Kd.C_alloc ?_ _) | (with_reducible refine Kd.C_drewN ?_ _) | (with_reducible refine Kd.C_drew ?_) | exact HR116_0.out)) hb); have n4_ := Aside0.mk (below_step (by repeat (first | (with_reducible first | exact HB.out | apply below_alloc | apply pw_below_drewN | apply below_drew1) | exact HB.out)) hb); clear HO_7; clear HO_18; clear HL116_0; clear HR116_0; clear HB; have HO_7 := n0_; have HO_18 := n1_; have HL116_0 := n2_; have HR116_0 := n3_; have HB := n4_; clear n0_ n1_ n2_ n3_ n4_; (try clear hb); (try clear hb2); (try clear hk); (try clear hi); obtain ⟨Ao32, co32, eo32⟩ := Kd.R_slice HO_7.out; subst eo32) | ((with_reducible refine gate_callee (f := 12) rfl ?_); refine goesL_ (some 31) rfl rfl Try.func12 (by kernel_rfl) rfl #[.slice A0 l0.length c0, .slice Ao32 x7_1.length co32, .int .i64 a2] rfl (by (try simp only [List.map_toArray, List.map_cons, List.map_nil]); first | done | rfl | (simp only [List.length_drop, List.length_take]; rfl)) ?_; (with_reducible refine (almshouseref41_Sum.calls k1 _ _ l0 _ _ x7_1 a2 t118 _ ?side1 ?side2 ?side3 ?side4 A12.out).mono ?_); (case side1 => repeat (first | exact (Kd.C_below HR0.out HB.out) | (with_reducible refine Kd.C_alloc ?_ _) | (with_reducible refine Kd.C_drewN ?_ _) | (with_reducible refine Kd.C_drew ?_))); (case side2 => exact HC0.out); (case side3 => repeat (first | exact (Kd.R_reads' HO_7.out).2.2 | (with_reducible refine Kd.C_alloc ?_ _) | (with_reducible refine Kd.C_drewN ?_ _) | (with_reducible refine Kd.C_drew ?_))); (case side4 => exact (Kd.R_reads' HO_7.out).2.1); rintro e w33 ⟨rfl, hb⟩; refine ⟨_, rfl, ?_⟩; have n0_ := Aside0.mk (Kd.R_below (by (with_reducible repeat (first | apply Kd.R_alloc | apply Kd.R_drewN | apply Kd.R_drew)); exact HO_7.out) hb); have n1_ := Aside0.mk (Kd.S_below (by (with_reducible repeat (first | apply Kd.S_alloc | apply Kd.S_drewN | apply Kd.S_drew)); exact HO_18.out) hb); have n2_ := Aside0.mk (Kd.R_below (by (with_reducible repeat (first | apply Kd.R_alloc | apply Kd.R_drewN | apply Kd.R_drew)); exact HL116_0.out) hb); have n3_ := Aside0.mk (Kd.C_below (by repeat (first | (with_reducible exact HR116_0.out) | (with_reducible refine Kd.C_alloc ?_ _) | (with_reducible refine Kd.C_drewN ?_ _) | (with_reducible refine Kd.C_drew ?_) | exact HR116_0.out)) hb); have n4_ := Aside0.mk (below_step (by repeat (first | (with_reducible first | exact HB.out | apply below_alloc | apply pw_below_drewN | apply below_drew1) | exact HB.out)) hb); clear HO_7; clear HO_18; clear HL116_0; clear HR116_0; clear HB; have HO_7 := n0_; have HO_18 := n1_; have HL116_0 := n2_; have HR116_0 := n3_; have HB := n4_; clear n0_ n1_ n2_ n3_ n4_; (try clear hb); (try clear hb2); (try clear hk); (try clear hi)))
           go_roundg k1
           case measure => have := HK1.out; omega
           case rel => exact ⟨(x7_1), (wrap64 (x20_1 + 1)), (by first | rfl | (simp; done) | (simp [*]; done)), H', ⟨by have := HK1.out; omega⟩, ⟨by (with_reducible repeat (first | apply Kd.R_alloc | apply Kd.R_drewN | apply Kd.R_drew)); exact HO_7.out⟩, ⟨by (with_reducible repeat (first | apply Kd.S_alloc | apply Kd.S_drewN | apply Kd.S_drew)); exact HO_18.out⟩, ⟨by repeat (first | (with_reducible first | exact HB.out | apply below_alloc | apply pw_below_drewN | apply below_drew1) | exact HB.out)⟩⟩
        ·rw [if_neg c17] at H
         have c17b0 : (t117 == t118) = false := beq_eq_false_iff_ne.mpr c17
         have c17b1 : (t117 != t118) = true := bne_iff_ne.mpr c17
         have H' := Aside0.mk H
         clear H
         have p116 : 0 ≤ (x20_1 : Int) := of_decide_eq_true (by first | (with_reducible assumption) | assumption)
         have q116 : x20_1 < (t113.length : Int) := of_decide_eq_true (by first | (with_reducible assumption) | assumption)
         obtain ⟨ad116, A116_0, c116_0, e116, hx116_0, hl116_0, hi116_0⟩ := at_L2 (Kd.S_reads' HO_18.out).2.2 x20_1 p116 q116
         cases e116
         obtain ⟨ce116, hce116, hMe116, hcc116⟩ := Kd.S_get HO_18.out [] x20_1 p116 (by first | exact q116 | exact of_decide_eq_true (by first | (with_reducible assumption) | assumption) | (have e_ := (Kd.S_reads' HO_18.out).1; omega))
         obtain ⟨ve116_0, rfl, ge116_0⟩ := hMe116
         have hv116_0 := hcc116 0 _ rfl
         rw [Nat.add_zero, show ((Kd.slice 3 (Kd.int .i64))).sz = 1 from rfl, Nat.mul_one] at hv116_0
         replace hv116_0 := Option.some.inj (hv116_0.symm.trans hx116_0)
         rw [hv116_0] at ge116_0
         have HL116_0 := Aside0.mk (show Kd.R (Kd.int .i64) 3 _ _ _ _ (rd_L2 t113 x20_1) from ge116_0)
         clear hv116_0 ge116_0
         clear hcc116 hce116
         have HR116_0 := Aside0.mk hi116_0
         have HC116_0 := Aside0.mk hl116_0
         clear hi116_0 hl116_0
         replace p116 := eq_true p116
         replace q116 := eq_true q116
         go_wp2_with (first | ((with_reducible refine gate_callee (f := 12) rfl ?_); refine goesL_ (some 27) rfl rfl Try.func12 (by kernel_rfl) rfl #[.slice A0 l0.length c0, .slice A116_0 (rd_L2 t113 x20_1).length c116_0, .int .i64 a2] rfl (by (try simp only [List.map_toArray, List.map_cons, List.map_nil]); first | done | rfl | (simp only [List.length_drop, List.length_take]; rfl)) ?_; (with_reducible refine (almshouseref41_Sum.calls k1 _ _ l0 _ _ (rd_L2 t113 x20_1) a2 t117 _ ?side1 ?side2 ?side3 ?side4 A11.out).mono ?_); (case side1 => repeat (first | exact (Kd.C_below HR0.out HB.out) | (with_reducible refine Kd.C_alloc ?_ _) | (with_reducible refine Kd.C_drewN ?_ _) | (with_reducible refine Kd.C_drew ?_))); (case side2 => exact HC0.out); (case side3 => repeat (first | exact (by repeat (first | (with_reducible exact HR116_0.out) | (with_reducible refine Kd.C_alloc ?_ _) | (with_reducible refine Kd.C_drewN ?_ _) | (with_reducible refine Kd.C_drew ?_) | exact HR116_0.out)) | (with_reducible refine Kd.C_alloc ?_ _) | (with_reducible refine Kd.C_drewN ?_ _) | (with_reducible refine Kd.C_drew ?_))); (case side4 => exact HC116_0.out); rintro e w34 ⟨rfl, hb⟩; refine ⟨_, rfl, ?_⟩; have n0_ := Aside0.mk (Kd.R_below (by (with_reducible repeat (first | apply Kd.R_alloc | apply Kd.R_drewN | apply Kd.R_drew)); exact HO_7.out) hb); have n1_ := Aside0.mk (Kd.S_below (by (with_reducible repeat (first | apply Kd.S_alloc | apply Kd.S_drewN | apply Kd.S_drew)); exact HO_18.out) hb); have n2_ := Aside0.mk (Kd.R_below (by (with_reducible repeat (first | apply Kd.R_alloc | apply Kd.R_drewN | apply Kd.R_drew)); exact HL116_0.out) hb); have n3_ := Aside0.mk (Kd.C_below (by repeat (first | (with_reducible exact HR116_0.out) | (with_reducible refine Kd.C_alloc ?_ _) | (with_reducible refine Kd.C_drewN ?_ _) | (with_reducible refine Kd.C_drew ?_) | exact HR116_0.out)) hb); have n4_ := Aside0.mk (below_step (by repeat (first | (with_reducible first | exact HB.out | apply below_alloc | apply pw_below_drewN | apply below_drew1) | exact HB.out)) hb); clear HO_7; clear HO_18; clear HL116_0; clear HR116_0; clear HB; have HO_7 := n0_; have HO_18 := n1_; have HL116_0 := n2_; have HR116_0 := n3_; have HB := n4_; clear n0_ n1_ n2_ n3_ n4_; (try clear hb); (try clear hb2); (try clear hk); (try clear hi); obtain ⟨Ao35, co35, eo35⟩ := Kd.R_slice HO_7.out; subst eo35) | ((with_reducible refine gate_callee (f := 12) rfl ?_); refine goesL_ (some 31) rfl rfl Try.func12 (by kernel_rfl) rfl #[.slice A0 l0.length c0, .slice Ao35 x7_1.length co35, .int .i64 a2] rfl (by (try simp only [List.map_toArray, List.map_cons, List.map_nil]); first | done | rfl | (simp only [List.length_drop, List.length_take]; rfl)) ?_; (with_reducible refine (almshouseref41_Sum.calls k1 _ _ l0 _ _ x7_1 a2 t118 _ ?side1 ?side2 ?side3 ?side4 A12.out).mono ?_); (case side1 => repeat (first | exact (Kd.C_below HR0.out HB.out) | (with_reducible refine Kd.C_alloc ?_ _) | (with_reducible refine Kd.C_drewN ?_ _) | (with_reducible refine Kd.C_drew ?_))); (case side2 => exact HC0.out); (case side3 => repeat (first | exact (Kd.R_reads' HO_7.out).2.2 | (with_reducible refine Kd.C_alloc ?_ _) | (with_reducible refine Kd.C_drewN ?_ _) | (with_reducible refine Kd.C_drew ?_))); (case side4 => exact (Kd.R_reads' HO_7.out).2.1); rintro e w36 ⟨rfl, hb⟩; refine ⟨_, rfl, ?_⟩; have n0_ := Aside0.mk (Kd.R_below (by (with_reducible repeat (first | apply Kd.R_alloc | apply Kd.R_drewN | apply Kd.R_drew)); exact HO_7.out) hb); have n1_ := Aside0.mk (Kd.S_below (by (with_reducible repeat (first | apply Kd.S_alloc | apply Kd.S_drewN | apply Kd.S_drew)); exact HO_18.out) hb); have n2_ := Aside0.mk (Kd.R_below (by (with_reducible repeat (first | apply Kd.R_alloc | apply Kd.R_drewN | apply Kd.R_drew)); exact HL116_0.out) hb); have n3_ := Aside0.mk (Kd.C_below (by repeat (first | (with_reducible exact HR116_0.out) | (with_reducible refine Kd.C_alloc ?_ _) | (with_reducible refine Kd.C_drewN ?_ _) | (with_reducible refine Kd.C_drew ?_) | exact HR116_0.out)) hb); have n4_ := Aside0.mk (below_step (by repeat (first | (with_reducible first | exact HB.out | apply below_alloc | apply pw_below_drewN | apply below_drew1) | exact HB.out)) hb); clear HO_7; clear HO_18; clear HL116_0; clear HR116_0; clear HB; have HO_7 := n0_; have HO_18 := n1_; have HL116_0 := n2_; have HR116_0 := n3_; have HB := n4_; clear n0_ n1_ n2_ n3_ n4_; (try clear hb); (try clear hb2); (try clear hk); (try clear hi)))
         go_roundg k1
         case measure => have := HK1.out; omega
         case rel => exact ⟨(x7_1), (wrap64 (x20_1 + 1)), (by first | rfl | (simp; done) | (simp [*]; done)), H', ⟨by have := HK1.out; omega⟩, ⟨by (with_reducible repeat (first | apply Kd.R_alloc | apply Kd.R_drewN | apply Kd.R_drew)); exact HO_7.out⟩, ⟨by (with_reducible repeat (first | apply Kd.S_alloc | apply Kd.S_drewN | apply Kd.S_drew)); exact HO_18.out⟩, ⟨by repeat (first | (with_reducible first | exact HB.out | apply below_alloc | apply pw_below_drewN | apply below_drew1) | exact HB.out)⟩⟩
      ·rw [if_neg c10] at H
       exact absurd H (by simp)
     ·rw [if_neg c9] at H
      exact absurd H (by simp)
    ·rw [if_neg c8] at H
     have c8b0 : decide (x20_1 < (t113.length : Int)) = false := decide_eq_false c8
     clear c8
     (try simp only [hl116_0] at c8b0)
     obtain rfl := Option.some.inj H
     go_wp2
     go_ret
     exact ⟨_, by first | rfl | (simp [errW_none, errW_some] <;> rfl) | (simp [*, errW_none, errW_some] <;> rfl), by (with_reducible repeat (first | apply Kd.R_alloc | apply Kd.R_drewN | apply Kd.R_drew)); exact HO_7.out, by repeat (first | (with_reducible first | exact HB.out | apply below_alloc | apply pw_below_drewN | apply below_drew1) | exact HB.out)⟩
end Go.Proofs.Ytpcpllabegfdjaa.X
