-- Cut by a program of this session (wip/pr/pack.py) to what one claim needs.
import Derived.Test.YteedjokkfiglhaaAPx0
import Derived.Test.YteedjokkfiglhaaAPx6
import Derived.Test.YteedjokkfiglhaaAPx7
namespace Go.Proofs.Yteedjokkfiglhaa.P
open Go.RowKit Go.Proofs.YteedjokkfiglhaaW.PrintWords Go.Proofs.YteedjokkfiglhaaW.PrintLast Go.Proofs.YteedjokkfiglhaaW.PrintMore
attribute [local go_sem] max2_int min2_int max_two min_two max_three min_three max_four min_four
set_option linter.unusedVariables false
set_option linter.unusedSimpArgs false
mutual
def almshouseref37_Pick.l0 : Nat → List Int → Int → List Int → Int → Int → Int → Int → Option (List Int × Bool)
 | 0, _, _, _, _, _, _, _ => none
 | k + 1, x1, x2, x8, x216000, x216001, x216002, x216003 => if (x8.length : Int) < x2 then (almshouseref37_Pick.l1 k x1 x2 x8 (-1) 0 x216000 x216001 x216002 x216003) else (almshouseref37_Pick.l2 k x2 x8 (x8.length : Int) 0)
def almshouseref37_Pick.l1 : Nat → List Int → Int → List Int → Int → Int → Int → Int → Int → Int → Option (List Int × Bool)
 | 0, _, _, _, _, _, _, _, _, _ => none
 | k + 1, x1, x2, x8, x9, x10, x216000, x216001, x216002, x216003 => if x10 < x216000 then ((almshouseref37_Loads.f k x216000 x216001 x216002 x216003 x8).bind fun t216 => (if 0 ≤ x10 then (if x10 < (t216.length : Int) then ((almshouseref37_Lane.f k x216000 x216001 x216002 x216003 x1 x10).bind fun t220 => (if (rd t216 x10) < (t220.length : Int) then (if x9 < 0 then (almshouseref37_Pick.l1 k x1 x2 x8 x10 (wrap64 (x10 + 1)) x216000 x216001 x216002 x216003) else ((almshouseref37_Loads.f k x216000 x216001 x216002 x216003 x8).bind fun t223 => (if 0 ≤ x9 then (if x9 < (t223.length : Int) then (if (rd t216 x10) < (rd t223 x9) then (almshouseref37_Pick.l1 k x1 x2 x8 x10 (wrap64 (x10 + 1)) x216000 x216001 x216002 x216003) else (almshouseref37_Pick.l1 k x1 x2 x8 x9 (wrap64 (x10 + 1)) x216000 x216001 x216002 x216003)) else (none)) else (none)))) else (almshouseref37_Pick.l1 k x1 x2 x8 x9 (wrap64 (x10 + 1)) x216000 x216001 x216002 x216003))) else (none)) else (none))) else (if x9 < 0 then (some (([] : List Int), false)) else ((almshouseref37_Lane.f k x216000 x216001 x216002 x216003 x1 x9).bind fun t227 => ((almshouseref37_Loads.f k x216000 x216001 x216002 x216003 x8).bind fun t230 => (if 0 ≤ x9 then (if x9 < (t230.length : Int) then (if 0 ≤ (rd t230 x9) then (if (rd t230 x9) < (t227.length : Int) then (if x8.length < 17592186044416 then (almshouseref37_Pick.l0 k x1 x2 (x8 ++ [rd t227 (rd t230 x9)]) x216000 x216001 x216002 x216003) else (none)) else (none)) else (none)) else (none)) else (none)))))
def almshouseref37_Pick.l2 : Nat → Int → List Int → Int → Int → Option (List Int × Bool)
 | 0, _, _, _, _ => none
 | k + 1, x2, x8, x71, x72 => if x72 < x71 then (almshouseref37_Pick.l3 k x2 x8 x72 0 x71 x72) else (some (x8, decide (x2 ≥ 0)))
def almshouseref37_Pick.l3 : Nat → Int → List Int → Int → Int → Int → Int → Option (List Int × Bool)
 | 0, _, _, _, _, _, _ => none
 | k + 1, x2, x8, x12, x13, x71, x72 => if x13 < x12 then (if 0 ≤ x13 then (if x13 < (x8.length : Int) then (if 0 ≤ x12 then (if x12 < (x8.length : Int) then (if (rd x8 x13) > (rd x8 x12) then (almshouseref37_Pick.l3 k x2 ((x8.set (x13 : Int).toNat (rd x8 x12)).set (x12 : Int).toNat (rd x8 x13)) x12 (wrap64 (x13 + 1)) x71 x72) else (almshouseref37_Pick.l3 k x2 x8 x12 (wrap64 (x13 + 1)) x71 x72)) else (none)) else (none)) else (none)) else (none)) else (almshouseref37_Pick.l2 k x2 x8 x71 (wrap64 (x72 + 1)))
end
def almshouseref37_Pick.f (k : Nat) (a0_0 : Int) (a0_1 : Int) (a0_2 : Int) (a0_3 : Int) (l1 : List Int) (a2 : Int) : Option (List Int × Bool) := almshouseref37_Pick.l0 k l1 a2 ([] : List Int) a0_0 a0_1 a0_2 a0_3
def almshouseref37_Pick.T12 : Bool × List (List Nat × List Nat) := (true, [([], []), ([], []), ([], []), ([], []), ([1, 2, 3], [1, 2, 3]), ([], []), ([], []), ([5, 6, 4], [5, 6]), ([], []), ([7, 8], [7, 8]), ([9], [9]), ([4, 10], [4, 10]), ([11], [11]), ([12], [12]), ([0, 13, 7], [0, 13]), ([14, 14, 0, 1, 2, 3, 4, 5, 6, 7, 8, 9, 10, 11, 12, 13, 14], [0, 6, 14])])
def almshouseref37_Pick.B12 : List Nat := [0, 0, 0, 0, 14, 0, 0, 126, 0, 510, 1022, 2046, 4094, 8190, 16383, 32767]
theorem almshouseref37_Pick.tab12 : rtab .any (opsOf Try.f11 12) = almshouseref37_Pick.T12 := by kernel_rfl
theorem almshouseref37_Pick.bits12 : waitsOk almshouseref37_Pick.T12.2 almshouseref37_Pick.B12 = true := by kernel_rfl
def almshouseref37_Pick.T19 : Bool × List (List Nat × List Nat) := (true, [([], []), ([], []), ([0, 1], [0, 1]), ([2], [2]), ([], []), ([], []), ([4, 5], [4, 5]), ([6], [6]), ([3, 7], [3, 7])])
def almshouseref37_Pick.B19 : List Nat := [0, 0, 3, 7, 0, 0, 48, 112, 255]
theorem almshouseref37_Pick.tab19 : rtab .any (opsOf Try.f11 19) = almshouseref37_Pick.T19 := by kernel_rfl
theorem almshouseref37_Pick.bits19 : waitsOk almshouseref37_Pick.T19.2 almshouseref37_Pick.B19 = true := by kernel_rfl
set_option maxHeartbeats 8000000 in
set_option maxRecDepth 100000 in
theorem almshouseref37_Pick.calls (k : Nat) (a0_0 : Int) (a0_1 : Int) (a0_2 : Int) (a0_3 : Int) (A1 : Option Addr) (c1 : Nat) (l1 : List Int) (a2 : Int) (r1 : List Int) (r2 : Bool) (w : World) (hr1 : Kd.C (Kd.int .i64) w A1 l1.length l1) (hc1 : l1.length ≤ c1) (h : almshouseref37_Pick.f k a0_0 a0_1 a0_2 a0_3 l1 a2 = some (r1, r2)) :
  Calls Try.prog 11 #[.agg #[.int .i64 a0_0, .int .i64 a0_1, .int .i64 a0_2, .int .i64 a0_3], .slice A1 l1.length c1, .int .i64 a2] w fun e w' => ∃ v0_ : Value, e = .returned (.tuple #[v0_, .bool r2]) ∧ Kd.R (Kd.int .i64) 3 w' w.heap.size (fun _ => True) v0_ r1 ∧ Below w.heap.size w w' := by
 have hu23 := Try.underlying23
 have HR1 := Aside0.mk hr1
 have HC1 := Aside0.mk hc1
 clear hr1 hc1
 have HB := Aside0.mk (Below.refl w.heap.size w)
 have H : (almshouseref37_Pick.l0 k l1 a2 ([] : List Int) a0_0 a0_1 a0_2 a0_3) = some (r1, r2) := h
 clear h
 have H' := Aside0.mk H
 clear H
 go_enter Try.func11, Try.ntmps11
 go_wp2_with (first | ((with_reducible refine gate_dst (N := 3) rfl ?_); refine box_event ?hg (N := 3) ?hd (cs := #[.int .i64 a0_0, .int .i64 a0_1, .int .i64 a0_2, .int .i64 a0_3]) (t := 23) ?hr ?_; (case hd => rfl); (case hg => rfl); (case hr => first | (go_simp; done) | (go_simp; rfl)); intro gb215 hg w4 hbox hb; have n0_ := Aside0.mk (below_step (by repeat (first | (with_reducible first | exact HB.out | apply below_alloc | apply pw_below_drewN | apply below_drew1) | exact HB.out)) hb); have n1_ := Aside0.mk (hbox); have n2_ := Aside0.mk ((by rw [hg]; exact (below_size (by repeat (first | (with_reducible first | exact HB.out | apply below_alloc | apply pw_below_drewN | apply below_drew1) | exact HB.out))) : w.heap.size ≤ gb215)); have n3_ := Aside0.mk ((by rw [hg]; exact (below_size (by repeat (first | (with_reducible first | exact HB.out | apply below_alloc | apply pw_below_drewN | apply below_drew1) | exact HB.out))) : w.heap.size ≤ gb215)); clear HB; have HB := n0_; have BK215 := n1_; have GW215 := n2_; have GE215 := n3_; clear n0_ n1_ n2_ n3_; clear hb hbox hg))
 go_loopg [8] k (fun kq v8 w' => ∃ (x8_1 : List Int), Aside0 (almshouseref37_Pick.l0 kq l1 a2 x8_1 a0_0 a0_1 a0_2 a0_3 = some (r1, r2)) ∧ Aside0 (kq ≤ k) ∧ Aside0 (Kd.R (Kd.int .i64) 3 w' w.heap.size (fun _ => True) v8 x8_1) ∧ Aside0 (w'.heap[gb215]? = some (.cells #[.int .i64 a0_0, .int .i64 a0_1, .int .i64 a0_2, .int .i64 a0_3] 23 (0, 0))) ∧ Aside0 (Below w.heap.size w w'))
 case atStart => exact ⟨(([] : List Int)), H', ⟨Nat.le_refl _⟩, ⟨by first | exact Kd.R_nil _ _ _ _ _ | exact Kd.N_nil _ _ _ _ _ | exact Kd.V_nil _ _ _ _ _ | exact Kd.Q_nil _ _ _ _ _ | exact Kd.S_nil _ _ _ _ _⟩, ⟨by (with_reducible repeat (first | refine blk_drewN ?_ _ | refine blk_drew ?_ | refine blk_alloc ?_ _)); exact BK215.out⟩, ⟨by repeat (first | (with_reducible first | exact HB.out | apply below_alloc | apply pw_below_drewN | apply below_drew1 | refine below_set ?_ GE215.out) | exact HB.out)⟩⟩
 case round =>
  clear H'
  try clear c1
  try clear p2
  obtain ⟨x8_1, HA, HK1, HO_8, BK215, HB⟩ := hrel
  cases gk with
  | zero => exact absurd HA.out (by simp [almshouseref37_Pick.l0])
  | succ k1 =>
   have H := HA.out
   clear HA
   simp only [almshouseref37_Pick.l0] at H
   by_cases c5 : (x8_1.length : Int) < a2
   ·rw [if_pos c5] at H
    have c5b0 : decide ((x8_1.length : Int) < a2) = true := decide_eq_true c5
    clear c5
    have H' := Aside0.mk H
    clear H
    obtain ⟨Ao6, co6, eo6⟩ := Kd.R_slice HO_8.out
    subst eo6
    go_wp2
    go_loopg [9, 10] k1 (fun kq v9 v10 w' => ∃ (x9_2 : Int) (x10_2 : Int), v9 = .int .i64 x9_2 ∧ v10 = .int .i64 x10_2 ∧ Aside0 (almshouseref37_Pick.l1 kq l1 a2 x8_1 x9_2 x10_2 a0_0 a0_1 a0_2 a0_3 = some (r1, r2)) ∧ Aside0 (kq ≤ k1) ∧ Aside0 (Kd.R (Kd.int .i64) 3 w' w.heap.size (fun _ => True) (.slice Ao6 x8_1.length co6) x8_1) ∧ Aside0 (w'.heap[gb215]? = some (.cells #[.int .i64 a0_0, .int .i64 a0_1, .int .i64 a0_2, .int .i64 a0_3] 23 (0, 0))) ∧ Aside0 (Below w.heap.size w w'))
    case atStart => exact ⟨((-1)), (0), (by first | rfl | (simp; done) | (simp [*]; done)), (by first | rfl | (simp; done) | (simp [*]; done)), H', ⟨Nat.le_refl _⟩, ⟨by (with_reducible repeat (first | apply Kd.R_alloc | apply Kd.R_drewN | apply Kd.R_drew)); exact HO_8.out⟩, ⟨by (with_reducible repeat (first | refine blk_drewN ?_ _ | refine blk_drew ?_ | refine blk_alloc ?_ _)); exact BK215.out⟩, ⟨by repeat (first | (with_reducible first | exact HB.out | apply below_alloc | apply pw_below_drewN | apply below_drew1 | refine below_set ?_ GE215.out) | exact HB.out)⟩⟩
    case round =>
     clear H'
     try clear c1
     try clear p2
     try clear c5
     try clear c5b0
     try clear p2
     obtain ⟨x9_2, x10_2, rfl, rfl, HA, HK2, HO_8, BK215, HB⟩ := hrel
     cases gk with
     | zero => exact absurd HA.out (by simp [almshouseref37_Pick.l1])
     | succ k2 =>
      have H := HA.out
      clear HA
      simp only [almshouseref37_Pick.l1] at H
      by_cases c7 : x10_2 < a0_0
      ·rw [if_pos c7] at H
       have c7b0 : decide (x10_2 < a0_0) = true := decide_eq_true c7
       clear c7
       replace H := Option.bind_eq_some_iff.mp H
       obtain ⟨t216, A80, H⟩ := H
       replace H : (if 0 ≤ x10_2 then (if x10_2 < (t216.length : Int) then ((almshouseref37_Lane.f k2 a0_0 a0_1 a0_2 a0_3 l1 x10_2).bind fun t220 => (if (rd t216 x10_2) < (t220.length : Int) then (if x9_2 < 0 then (almshouseref37_Pick.l1 k2 l1 a2 x8_1 x10_2 (wrap64 (x10_2 + 1)) a0_0 a0_1 a0_2 a0_3) else ((almshouseref37_Loads.f k2 a0_0 a0_1 a0_2 a0_3 x8_1).bind fun t223 => (if 0 ≤ x9_2 then (if x9_2 < (t223.length : Int) then (if (rd t216 x10_2) < (rd t223 x9_2) then (almshouseref37_Pick.l1 k2 l1 a2 x8_1 x10_2 (wrap64 (x10_2 + 1)) a0_0 a0_1 a0_2 a0_3) else (almshouseref37_Pick.l1 k2 l1 a2 x8_1 x9_2 (wrap64 (x10_2 + 1)) a0_0 a0_1 a0_2 a0_3)) else (none)) else (none)))) else (almshouseref37_Pick.l1 k2 l1 a2 x8_1 x9_2 (wrap64 (x10_2 + 1)) a0_0 a0_1 a0_2 a0_3))) else (none)) else (none)) = some (r1, r2) := H
       have A8 := Aside0.mk A80
       clear A80
       by_cases c9 : 0 ≤ x10_2
       ·rw [if_pos c9] at H
        have c9b0 : decide (0 ≤ x10_2) = true := decide_eq_true c9
        clear c9
        by_cases c10 : x10_2 < (t216.length : Int)
        ·rw [if_pos c10] at H
         have c10b0 : decide (x10_2 < (t216.length : Int)) = true := decide_eq_true c10
         clear c10
         replace H := Option.bind_eq_some_iff.mp H
         obtain ⟨t220, A110, H⟩ := H
         replace H : (if (rd t216 x10_2) < (t220.length : Int) then (if x9_2 < 0 then (almshouseref37_Pick.l1 k2 l1 a2 x8_1 x10_2 (wrap64 (x10_2 + 1)) a0_0 a0_1 a0_2 a0_3) else ((almshouseref37_Loads.f k2 a0_0 a0_1 a0_2 a0_3 x8_1).bind fun t223 => (if 0 ≤ x9_2 then (if x9_2 < (t223.length : Int) then (if (rd t216 x10_2) < (rd t223 x9_2) then (almshouseref37_Pick.l1 k2 l1 a2 x8_1 x10_2 (wrap64 (x10_2 + 1)) a0_0 a0_1 a0_2 a0_3) else (almshouseref37_Pick.l1 k2 l1 a2 x8_1 x9_2 (wrap64 (x10_2 + 1)) a0_0 a0_1 a0_2 a0_3)) else (none)) else (none)))) else (almshouseref37_Pick.l1 k2 l1 a2 x8_1 x9_2 (wrap64 (x10_2 + 1)) a0_0 a0_1 a0_2 a0_3)) = some (r1, r2) := H
         have A11 := Aside0.mk A110
         clear A110
         by_cases c12 : (rd t216 x10_2) < (t220.length : Int)
         ·rw [if_pos c12] at H
          have c12b0 : decide ((rd t216 x10_2) < (t220.length : Int)) = true := decide_eq_true c12
          clear c12
          by_cases c13 : x9_2 < 0
          ·rw [if_pos c13] at H
           have c13b0 : decide (x9_2 < 0) = true := decide_eq_true c13
           clear c13
           have H' := Aside0.mk H
           clear H
           have hcz14_0 : wr.cell? ⟨gb215, 0, none⟩ = some (.int .i64 a0_0) := (blk_cell BK215.out 0).trans rfl
           have hcz14_1 : wr.cell? ⟨gb215, 1, none⟩ = some (.int .i64 a0_1) := (blk_cell BK215.out 1).trans rfl
           have hcz14_2 : wr.cell? ⟨gb215, 2, none⟩ = some (.int .i64 a0_2) := (blk_cell BK215.out 2).trans rfl
           have hcz14_3 : wr.cell? ⟨gb215, 3, none⟩ = some (.int .i64 a0_3) := (blk_cell BK215.out 3).trans rfl
           have hfz14_0 := blk_frozen BK215.out 0
           have hfz14_1 := blk_frozen BK215.out 1
           have hfz14_2 := blk_frozen BK215.out 2
           have hfz14_3 := blk_frozen BK215.out 3
           go_wp2_with (first | ((with_reducible refine gate_callee (f := 12) rfl ?_); refine goesL_ (some 27) rfl rfl Try.func12 (by kernel_rfl) rfl #[.agg #[.int .i64 a0_0, .int .i64 a0_1, .int .i64 a0_2, .int .i64 a0_3], .slice Ao6 x8_1.length co6] rfl (by (try simp only [List.map_toArray, List.map_cons, List.map_nil]); first | done | rfl | (simp only [List.length_drop, List.length_take]; rfl)) ?_; (with_reducible refine (almshouseref37_Loads.calls k2 a0_0 a0_1 a0_2 a0_3 _ _ x8_1 t216 _ ?side1 ?side2 A8.out).mono ?_); (case side1 => repeat (first | exact (Kd.R_reads' HO_8.out).2.2 | (with_reducible refine Kd.C_alloc ?_ _) | (with_reducible refine Kd.C_drewN ?_ _) | (with_reducible refine Kd.C_drew ?_))); (case side2 => exact (Kd.R_reads' HO_8.out).2.1); rintro e w15 ⟨v217, rfl, ho0, hb⟩; refine ⟨_, rfl, ?_⟩; have n0_ := Aside0.mk (Kd.R_elder' (by (with_reducible repeat (first | apply Kd.R_alloc | apply Kd.R_drewN | apply Kd.R_drew)); exact HO_8.out) (Kd.R_base ho0) hb); have n1_ := Aside0.mk (Kd.R_lower (Kd.R_new' ho0 (Kd.R_lt (by (with_reducible repeat (first | apply Kd.R_alloc | apply Kd.R_drewN | apply Kd.R_drew)); exact HO_8.out))) (below_size (by repeat (first | (with_reducible first | exact HB.out | apply below_alloc | apply pw_below_drewN | apply below_drew1 | refine below_set ?_ GE215.out) | exact HB.out)))); have n2_ := Aside0.mk (blk_below (g := gb215) (o := .cells #[.int .i64 a0_0, .int .i64 a0_1, .int .i64 a0_2, .int .i64 a0_3] 23 (0, 0)) (by (with_reducible repeat (first | refine blk_drewN ?_ _ | refine blk_drew ?_ | refine blk_alloc ?_ _)); exact BK215.out) hb); have n3_ := Aside0.mk (below_step (by repeat (first | (with_reducible first | exact HB.out | apply below_alloc | apply pw_below_drewN | apply below_drew1 | refine below_set ?_ GE215.out) | exact HB.out)) hb); clear HO_8; clear BK215; clear HB; have HO_8 := n0_; have HO218 := n1_; have BK215 := n2_; have HB := n3_; clear n0_ n1_ n2_ n3_; (try clear hb); (try clear hb2); (try clear hk); (try clear hi); (try clear ho0); obtain ⟨Ao16, co16, eo16⟩ := Kd.R_slice HO218.out; subst eo16; have p219 : 0 ≤ (x10_2 : Int) := of_decide_eq_true (by first | (with_reducible assumption) | assumption); have q219 : x10_2 < (t216.length : Int) := of_decide_eq_true (by first | (with_reducible assumption) | assumption); obtain ⟨ad219, e219, hx219_0⟩ := Kd.at_int (Kd.R_reads' HO218.out).2.2 x10_2 p219 q219; cases e219; replace p219 := eq_true p219; replace q219 := eq_true q219; have hcz17_0 : w15.cell? ⟨gb215, 0, none⟩ = some (.int .i64 a0_0) := (blk_cell BK215.out 0).trans rfl; have hcz17_1 : w15.cell? ⟨gb215, 1, none⟩ = some (.int .i64 a0_1) := (blk_cell BK215.out 1).trans rfl; have hcz17_2 : w15.cell? ⟨gb215, 2, none⟩ = some (.int .i64 a0_2) := (blk_cell BK215.out 2).trans rfl; have hcz17_3 : w15.cell? ⟨gb215, 3, none⟩ = some (.int .i64 a0_3) := (blk_cell BK215.out 3).trans rfl; have hfz17_0 := blk_frozen BK215.out 0; have hfz17_1 := blk_frozen BK215.out 1; have hfz17_2 := blk_frozen BK215.out 2; have hfz17_3 := blk_frozen BK215.out 3) | ((with_reducible refine gate_callee (f := 15) rfl ?_); refine goesL_ (some 35) rfl rfl Try.func15 (by kernel_rfl) rfl #[.agg #[.int .i64 a0_0, .int .i64 a0_1, .int .i64 a0_2, .int .i64 a0_3], .slice A1 l1.length c1, .int .i64 x10_2] rfl (by (try simp only [List.map_toArray, List.map_cons, List.map_nil]); first | done | rfl | (simp only [List.length_drop, List.length_take]; rfl)) ?_; (with_reducible refine (almshouseref37_Lane.calls k2 a0_0 a0_1 a0_2 a0_3 _ _ l1 x10_2 t220 _ ?side1 ?side2 A11.out).mono ?_); (case side1 => repeat (first | exact (Kd.C_below HR1.out HB.out) | (with_reducible refine Kd.C_alloc ?_ _) | (with_reducible refine Kd.C_drewN ?_ _) | (with_reducible refine Kd.C_drew ?_))); (case side2 => exact HC1.out); rintro e w18 ⟨v221, rfl, ho0, hb⟩; refine ⟨_, rfl, ?_⟩; have n0_ := Aside0.mk (Kd.R_elder' (by (with_reducible repeat (first | apply Kd.R_alloc | apply Kd.R_drewN | apply Kd.R_drew)); exact HO_8.out) (Kd.R_base ho0) hb); have n1_ := Aside0.mk (Kd.R_elder' (by (with_reducible repeat (first | apply Kd.R_alloc | apply Kd.R_drewN | apply Kd.R_drew)); exact HO218.out) (Kd.R_base ho0) hb); have n2_ := Aside0.mk (Kd.R_lower (Kd.R_new' (Kd.R_new' ho0 (Kd.R_lt (by (with_reducible repeat (first | apply Kd.R_alloc | apply Kd.R_drewN | apply Kd.R_drew)); exact HO_8.out))) (Kd.R_lt (by (with_reducible repeat (first | apply Kd.R_alloc | apply Kd.R_drewN | apply Kd.R_drew)); exact HO218.out))) (below_size (by repeat (first | (with_reducible first | exact HB.out | apply below_alloc | apply pw_below_drewN | apply below_drew1 | refine below_set ?_ GE215.out) | exact HB.out)))); have n3_ := Aside0.mk (blk_below (g := gb215) (o := .cells #[.int .i64 a0_0, .int .i64 a0_1, .int .i64 a0_2, .int .i64 a0_3] 23 (0, 0)) (by (with_reducible repeat (first | refine blk_drewN ?_ _ | refine blk_drew ?_ | refine blk_alloc ?_ _)); exact BK215.out) hb); have n4_ := Aside0.mk (below_step (by repeat (first | (with_reducible first | exact HB.out | apply below_alloc | apply pw_below_drewN | apply below_drew1 | refine below_set ?_ GE215.out) | exact HB.out)) hb); clear HO_8; clear HO218; clear BK215; clear HB; have HO_8 := n0_; have HO218 := n1_; have HO222 := n2_; have BK215 := n3_; have HB := n4_; clear n0_ n1_ n2_ n3_ n4_; (try clear hb); (try clear hb2); (try clear hk); (try clear hi); (try clear ho0); obtain ⟨Ao19, co19, eo19⟩ := Kd.R_slice HO222.out; subst eo19))
           go_roundg k2
           case measure => have := HK1.out; have := HK2.out; omega
           case rel => exact ⟨(x10_2), (wrap64 (x10_2 + 1)), (by first | rfl | (simp; done) | (simp [*]; done)), (by first | rfl | (simp; done) | (simp [*]; done)), H', ⟨by have := HK1.out; have := HK2.out; omega⟩, ⟨by (with_reducible repeat (first | apply Kd.R_alloc | apply Kd.R_drewN | apply Kd.R_drew)); exact Kd.R_mono HO_8.out (fun _ hk => trivial)⟩, ⟨by (with_reducible repeat (first | refine blk_drewN ?_ _ | refine blk_drew ?_ | refine blk_alloc ?_ _)); exact BK215.out⟩, ⟨by repeat (first | (with_reducible first | exact HB.out | apply below_alloc | apply pw_below_drewN | apply below_drew1 | refine below_set ?_ GE215.out) | exact HB.out)⟩⟩
          ·rw [if_neg c13] at H
           have c13b0 : decide (x9_2 < 0) = false := decide_eq_false c13
           clear c13
           replace H := Option.bind_eq_some_iff.mp H
           obtain ⟨t223, A200, H⟩ := H
           replace H : (if 0 ≤ x9_2 then (if x9_2 < (t223.length : Int) then (if (rd t216 x10_2) < (rd t223 x9_2) then (almshouseref37_Pick.l1 k2 l1 a2 x8_1 x10_2 (wrap64 (x10_2 + 1)) a0_0 a0_1 a0_2 a0_3) else (almshouseref37_Pick.l1 k2 l1 a2 x8_1 x9_2 (wrap64 (x10_2 + 1)) a0_0 a0_1 a0_2 a0_3)) else (none)) else (none)) = some (r1, r2) := H
           have A20 := Aside0.mk A200
           clear A200
           by_cases c21 : 0 ≤ x9_2
           ·rw [if_pos c21] at H
            have c21b0 : decide (0 ≤ x9_2) = true := decide_eq_true c21
            clear c21
            by_cases c22 : x9_2 < (t223.length : Int)
            ·rw [if_pos c22] at H
             have c22b0 : decide (x9_2 < (t223.length : Int)) = true := decide_eq_true c22
             clear c22
             by_cases c23 : (rd t216 x10_2) < (rd t223 x9_2)
             ·rw [if_pos c23] at H
              have c23b0 : decide ((rd t216 x10_2) < (rd t223 x9_2)) = true := decide_eq_true c23
              clear c23
              have H' := Aside0.mk H
              clear H
              have hcz24_0 : wr.cell? ⟨gb215, 0, none⟩ = some (.int .i64 a0_0) := (blk_cell BK215.out 0).trans rfl
              have hcz24_1 : wr.cell? ⟨gb215, 1, none⟩ = some (.int .i64 a0_1) := (blk_cell BK215.out 1).trans rfl
              have hcz24_2 : wr.cell? ⟨gb215, 2, none⟩ = some (.int .i64 a0_2) := (blk_cell BK215.out 2).trans rfl
              have hcz24_3 : wr.cell? ⟨gb215, 3, none⟩ = some (.int .i64 a0_3) := (blk_cell BK215.out 3).trans rfl
              have hfz24_0 := blk_frozen BK215.out 0
              have hfz24_1 := blk_frozen BK215.out 1
              have hfz24_2 := blk_frozen BK215.out 2
              have hfz24_3 := blk_frozen BK215.out 3
              go_wp2_with (first | ((with_reducible refine gate_callee (f := 12) rfl ?_); refine goesL_ (some 27) rfl rfl Try.func12 (by kernel_rfl) rfl #[.agg #[.int .i64 a0_0, .int .i64 a0_1, .int .i64 a0_2, .int .i64 a0_3], .slice Ao6 x8_1.length co6] rfl (by (try simp only [List.map_toArray, List.map_cons, List.map_nil]); first | done | rfl | (simp only [List.length_drop, List.length_take]; rfl)) ?_; (with_reducible refine (almshouseref37_Loads.calls k2 a0_0 a0_1 a0_2 a0_3 _ _ x8_1 t216 _ ?side1 ?side2 A8.out).mono ?_); (case side1 => repeat (first | exact (Kd.R_reads' HO_8.out).2.2 | (with_reducible refine Kd.C_alloc ?_ _) | (with_reducible refine Kd.C_drewN ?_ _) | (with_reducible refine Kd.C_drew ?_))); (case side2 => exact (Kd.R_reads' HO_8.out).2.1); rintro e w25 ⟨v217, rfl, ho0, hb⟩; refine ⟨_, rfl, ?_⟩; have n0_ := Aside0.mk (Kd.R_elder' (by (with_reducible repeat (first | apply Kd.R_alloc | apply Kd.R_drewN | apply Kd.R_drew)); exact HO_8.out) (Kd.R_base ho0) hb); have n1_ := Aside0.mk (Kd.R_lower (Kd.R_new' ho0 (Kd.R_lt (by (with_reducible repeat (first | apply Kd.R_alloc | apply Kd.R_drewN | apply Kd.R_drew)); exact HO_8.out))) (below_size (by repeat (first | (with_reducible first | exact HB.out | apply below_alloc | apply pw_below_drewN | apply below_drew1 | refine below_set ?_ GE215.out) | exact HB.out)))); have n2_ := Aside0.mk (blk_below (g := gb215) (o := .cells #[.int .i64 a0_0, .int .i64 a0_1, .int .i64 a0_2, .int .i64 a0_3] 23 (0, 0)) (by (with_reducible repeat (first | refine blk_drewN ?_ _ | refine blk_drew ?_ | refine blk_alloc ?_ _)); exact BK215.out) hb); have n3_ := Aside0.mk (below_step (by repeat (first | (with_reducible first | exact HB.out | apply below_alloc | apply pw_below_drewN | apply below_drew1 | refine below_set ?_ GE215.out) | exact HB.out)) hb); clear HO_8; clear BK215; clear HB; have HO_8 := n0_; have HO218 := n1_; have BK215 := n2_; have HB := n3_; clear n0_ n1_ n2_ n3_; (try clear hb); (try clear hb2); (try clear hk); (try clear hi); (try clear ho0); obtain ⟨Ao26, co26, eo26⟩ := Kd.R_slice HO218.out; subst eo26; have p219 : 0 ≤ (x10_2 : Int) := of_decide_eq_true (by first | (with_reducible assumption) | assumption); have q219 : x10_2 < (t216.length : Int) := of_decide_eq_true (by first | (with_reducible assumption) | assumption); obtain ⟨ad219, e219, hx219_0⟩ := Kd.at_int (Kd.R_reads' HO218.out).2.2 x10_2 p219 q219; cases e219; replace p219 := eq_true p219; replace q219 := eq_true q219; have hcz27_0 : w25.cell? ⟨gb215, 0, none⟩ = some (.int .i64 a0_0) := (blk_cell BK215.out 0).trans rfl; have hcz27_1 : w25.cell? ⟨gb215, 1, none⟩ = some (.int .i64 a0_1) := (blk_cell BK215.out 1).trans rfl; have hcz27_2 : w25.cell? ⟨gb215, 2, none⟩ = some (.int .i64 a0_2) := (blk_cell BK215.out 2).trans rfl; have hcz27_3 : w25.cell? ⟨gb215, 3, none⟩ = some (.int .i64 a0_3) := (blk_cell BK215.out 3).trans rfl; have hfz27_0 := blk_frozen BK215.out 0; have hfz27_1 := blk_frozen BK215.out 1; have hfz27_2 := blk_frozen BK215.out 2; have hfz27_3 := blk_frozen BK215.out 3) | ((with_reducible refine gate_callee (f := 15) rfl ?_); refine goesL_ (some 35) rfl rfl Try.func15 (by kernel_rfl) rfl #[.agg #[.int .i64 a0_0, .int .i64 a0_1, .int .i64 a0_2, .int .i64 a0_3], .slice A1 l1.length c1, .int .i64 x10_2] rfl (by (try simp only [List.map_toArray, List.map_cons, List.map_nil]); first | done | rfl | (simp only [List.length_drop, List.length_take]; rfl)) ?_; (with_reducible refine (almshouseref37_Lane.calls k2 a0_0 a0_1 a0_2 a0_3 _ _ l1 x10_2 t220 _ ?side1 ?side2 A11.out).mono ?_); (case side1 => repeat (first | exact (Kd.C_below HR1.out HB.out) | (with_reducible refine Kd.C_alloc ?_ _) | (with_reducible refine Kd.C_drewN ?_ _) | (with_reducible refine Kd.C_drew ?_))); (case side2 => exact HC1.out); rintro e w28 ⟨v221, rfl, ho0, hb⟩; refine ⟨_, rfl, ?_⟩; have n0_ := Aside0.mk (Kd.R_elder' (by (with_reducible repeat (first | apply Kd.R_alloc | apply Kd.R_drewN | apply Kd.R_drew)); exact HO_8.out) (Kd.R_base ho0) hb); have n1_ := Aside0.mk (Kd.R_elder' (by (with_reducible repeat (first | apply Kd.R_alloc | apply Kd.R_drewN | apply Kd.R_drew)); exact HO218.out) (Kd.R_base ho0) hb); have n2_ := Aside0.mk (Kd.R_lower (Kd.R_new' (Kd.R_new' ho0 (Kd.R_lt (by (with_reducible repeat (first | apply Kd.R_alloc | apply Kd.R_drewN | apply Kd.R_drew)); exact HO_8.out))) (Kd.R_lt (by (with_reducible repeat (first | apply Kd.R_alloc | apply Kd.R_drewN | apply Kd.R_drew)); exact HO218.out))) (below_size (by repeat (first | (with_reducible first | exact HB.out | apply below_alloc | apply pw_below_drewN | apply below_drew1 | refine below_set ?_ GE215.out) | exact HB.out)))); have n3_ := Aside0.mk (blk_below (g := gb215) (o := .cells #[.int .i64 a0_0, .int .i64 a0_1, .int .i64 a0_2, .int .i64 a0_3] 23 (0, 0)) (by (with_reducible repeat (first | refine blk_drewN ?_ _ | refine blk_drew ?_ | refine blk_alloc ?_ _)); exact BK215.out) hb); have n4_ := Aside0.mk (below_step (by repeat (first | (with_reducible first | exact HB.out | apply below_alloc | apply pw_below_drewN | apply below_drew1 | refine below_set ?_ GE215.out) | exact HB.out)) hb); clear HO_8; clear HO218; clear BK215; clear HB; have HO_8 := n0_; have HO218 := n1_; have HO222 := n2_; have BK215 := n3_; have HB := n4_; clear n0_ n1_ n2_ n3_ n4_; (try clear hb); (try clear hb2); (try clear hk); (try clear hi); (try clear ho0); obtain ⟨Ao29, co29, eo29⟩ := Kd.R_slice HO222.out; subst eo29; have hcz30_0 : w28.cell? ⟨gb215, 0, none⟩ = some (.int .i64 a0_0) := (blk_cell BK215.out 0).trans rfl; have hcz30_1 : w28.cell? ⟨gb215, 1, none⟩ = some (.int .i64 a0_1) := (blk_cell BK215.out 1).trans rfl; have hcz30_2 : w28.cell? ⟨gb215, 2, none⟩ = some (.int .i64 a0_2) := (blk_cell BK215.out 2).trans rfl; have hcz30_3 : w28.cell? ⟨gb215, 3, none⟩ = some (.int .i64 a0_3) := (blk_cell BK215.out 3).trans rfl; have hfz30_0 := blk_frozen BK215.out 0; have hfz30_1 := blk_frozen BK215.out 1; have hfz30_2 := blk_frozen BK215.out 2; have hfz30_3 := blk_frozen BK215.out 3) | (go_at_call 12; (with_reducible refine (almshouseref37_Loads.calls k2 a0_0 a0_1 a0_2 a0_3 _ _ x8_1 t223 _ ?side1 ?side2 A20.out).mono ?_); (case side1 => repeat (first | exact (Kd.R_reads' HO_8.out).2.2 | (with_reducible refine Kd.C_alloc ?_ _) | (with_reducible refine Kd.C_drewN ?_ _) | (with_reducible refine Kd.C_drew ?_))); (case side2 => exact (Kd.R_reads' HO_8.out).2.1); rintro e w31 ⟨v224, rfl, ho0, hb⟩; have n0_ := Aside0.mk (Kd.R_elder' (by (with_reducible repeat (first | apply Kd.R_alloc | apply Kd.R_drewN | apply Kd.R_drew)); exact HO_8.out) (Kd.R_base ho0) hb); have n1_ := Aside0.mk (Kd.R_elder' (by (with_reducible repeat (first | apply Kd.R_alloc | apply Kd.R_drewN | apply Kd.R_drew)); exact HO218.out) (Kd.R_base ho0) hb); have n2_ := Aside0.mk (Kd.R_elder' (by (with_reducible repeat (first | apply Kd.R_alloc | apply Kd.R_drewN | apply Kd.R_drew)); exact HO222.out) (Kd.R_base ho0) hb); have n3_ := Aside0.mk (Kd.R_lower (Kd.R_new' (Kd.R_new' (Kd.R_new' ho0 (Kd.R_lt (by (with_reducible repeat (first | apply Kd.R_alloc | apply Kd.R_drewN | apply Kd.R_drew)); exact HO_8.out))) (Kd.R_lt (by (with_reducible repeat (first | apply Kd.R_alloc | apply Kd.R_drewN | apply Kd.R_drew)); exact HO218.out))) (Kd.R_lt (by (with_reducible repeat (first | apply Kd.R_alloc | apply Kd.R_drewN | apply Kd.R_drew)); exact HO222.out))) (below_size (by repeat (first | (with_reducible first | exact HB.out | apply below_alloc | apply pw_below_drewN | apply below_drew1 | refine below_set ?_ GE215.out) | exact HB.out)))); have n4_ := Aside0.mk (blk_below (g := gb215) (o := .cells #[.int .i64 a0_0, .int .i64 a0_1, .int .i64 a0_2, .int .i64 a0_3] 23 (0, 0)) (by (with_reducible repeat (first | refine blk_drewN ?_ _ | refine blk_drew ?_ | refine blk_alloc ?_ _)); exact BK215.out) hb); have n5_ := Aside0.mk (below_step (by repeat (first | (with_reducible first | exact HB.out | apply below_alloc | apply pw_below_drewN | apply below_drew1 | refine below_set ?_ GE215.out) | exact HB.out)) hb); clear HO_8; clear HO218; clear HO222; clear BK215; clear HB; have HO_8 := n0_; have HO218 := n1_; have HO222 := n2_; have HO225 := n3_; have BK215 := n4_; have HB := n5_; clear n0_ n1_ n2_ n3_ n4_ n5_; (try clear hb); (try clear hb2); (try clear hk); (try clear hi); (try clear ho0); obtain ⟨Ao32, co32, eo32⟩ := Kd.R_slice HO225.out; subst eo32; have p226 : 0 ≤ (x9_2 : Int) := of_decide_eq_true (by first | (with_reducible assumption) | assumption); have q226 : x9_2 < (t223.length : Int) := of_decide_eq_true (by first | (with_reducible assumption) | assumption); obtain ⟨ad226, e226, hx226_0⟩ := Kd.at_int (Kd.R_reads' HO225.out).2.2 x9_2 p226 q226; cases e226; replace p226 := eq_true p226; replace q226 := eq_true q226))
              go_roundg k2
              case measure => have := HK1.out; have := HK2.out; omega
              case rel => exact ⟨(x10_2), (wrap64 (x10_2 + 1)), (by first | rfl | (simp; done) | (simp [*]; done)), (by first | rfl | (simp; done) | (simp [*]; done)), H', ⟨by have := HK1.out; have := HK2.out; omega⟩, ⟨by (with_reducible repeat (first | apply Kd.R_alloc | apply Kd.R_drewN | apply Kd.R_drew)); exact Kd.R_mono HO_8.out (fun _ hk => trivial)⟩, ⟨by (with_reducible repeat (first | refine blk_drewN ?_ _ | refine blk_drew ?_ | refine blk_alloc ?_ _)); exact BK215.out⟩, ⟨by repeat (first | (with_reducible first | exact HB.out | apply below_alloc | apply pw_below_drewN | apply below_drew1 | refine below_set ?_ GE215.out) | exact HB.out)⟩⟩
             ·rw [if_neg c23] at H
              have c23b0 : decide ((rd t216 x10_2) < (rd t223 x9_2)) = false := decide_eq_false c23
              clear c23
              have H' := Aside0.mk H
              clear H
              have hcz33_0 : wr.cell? ⟨gb215, 0, none⟩ = some (.int .i64 a0_0) := (blk_cell BK215.out 0).trans rfl
              have hcz33_1 : wr.cell? ⟨gb215, 1, none⟩ = some (.int .i64 a0_1) := (blk_cell BK215.out 1).trans rfl
              have hcz33_2 : wr.cell? ⟨gb215, 2, none⟩ = some (.int .i64 a0_2) := (blk_cell BK215.out 2).trans rfl
              have hcz33_3 : wr.cell? ⟨gb215, 3, none⟩ = some (.int .i64 a0_3) := (blk_cell BK215.out 3).trans rfl
              have hfz33_0 := blk_frozen BK215.out 0
              have hfz33_1 := blk_frozen BK215.out 1
              have hfz33_2 := blk_frozen BK215.out 2
              have hfz33_3 := blk_frozen BK215.out 3
              go_wp2_with (first | ((with_reducible refine gate_callee (f := 12) rfl ?_); refine goesL_ (some 27) rfl rfl Try.func12 (by kernel_rfl) rfl #[.agg #[.int .i64 a0_0, .int .i64 a0_1, .int .i64 a0_2, .int .i64 a0_3], .slice Ao6 x8_1.length co6] rfl (by (try simp only [List.map_toArray, List.map_cons, List.map_nil]); first | done | rfl | (simp only [List.length_drop, List.length_take]; rfl)) ?_; (with_reducible refine (almshouseref37_Loads.calls k2 a0_0 a0_1 a0_2 a0_3 _ _ x8_1 t216 _ ?side1 ?side2 A8.out).mono ?_); (case side1 => repeat (first | exact (Kd.R_reads' HO_8.out).2.2 | (with_reducible refine Kd.C_alloc ?_ _) | (with_reducible refine Kd.C_drewN ?_ _) | (with_reducible refine Kd.C_drew ?_))); (case side2 => exact (Kd.R_reads' HO_8.out).2.1); rintro e w34 ⟨v217, rfl, ho0, hb⟩; refine ⟨_, rfl, ?_⟩; have n0_ := Aside0.mk (Kd.R_elder' (by (with_reducible repeat (first | apply Kd.R_alloc | apply Kd.R_drewN | apply Kd.R_drew)); exact HO_8.out) (Kd.R_base ho0) hb); have n1_ := Aside0.mk (Kd.R_lower (Kd.R_new' ho0 (Kd.R_lt (by (with_reducible repeat (first | apply Kd.R_alloc | apply Kd.R_drewN | apply Kd.R_drew)); exact HO_8.out))) (below_size (by repeat (first | (with_reducible first | exact HB.out | apply below_alloc | apply pw_below_drewN | apply below_drew1 | refine below_set ?_ GE215.out) | exact HB.out)))); have n2_ := Aside0.mk (blk_below (g := gb215) (o := .cells #[.int .i64 a0_0, .int .i64 a0_1, .int .i64 a0_2, .int .i64 a0_3] 23 (0, 0)) (by (with_reducible repeat (first | refine blk_drewN ?_ _ | refine blk_drew ?_ | refine blk_alloc ?_ _)); exact BK215.out) hb); have n3_ := Aside0.mk (below_step (by repeat (first | (with_reducible first | exact HB.out | apply below_alloc | apply pw_below_drewN | apply below_drew1 | refine below_set ?_ GE215.out) | exact HB.out)) hb); clear HO_8; clear BK215; clear HB; have HO_8 := n0_; have HO218 := n1_; have BK215 := n2_; have HB := n3_; clear n0_ n1_ n2_ n3_; (try clear hb); (try clear hb2); (try clear hk); (try clear hi); (try clear ho0); obtain ⟨Ao35, co35, eo35⟩ := Kd.R_slice HO218.out; subst eo35; have p219 : 0 ≤ (x10_2 : Int) := of_decide_eq_true (by first | (with_reducible assumption) | assumption); have q219 : x10_2 < (t216.length : Int) := of_decide_eq_true (by first | (with_reducible assumption) | assumption); obtain ⟨ad219, e219, hx219_0⟩ := Kd.at_int (Kd.R_reads' HO218.out).2.2 x10_2 p219 q219; cases e219; replace p219 := eq_true p219; replace q219 := eq_true q219; have hcz36_0 : w34.cell? ⟨gb215, 0, none⟩ = some (.int .i64 a0_0) := (blk_cell BK215.out 0).trans rfl; have hcz36_1 : w34.cell? ⟨gb215, 1, none⟩ = some (.int .i64 a0_1) := (blk_cell BK215.out 1).trans rfl; have hcz36_2 : w34.cell? ⟨gb215, 2, none⟩ = some (.int .i64 a0_2) := (blk_cell BK215.out 2).trans rfl; have hcz36_3 : w34.cell? ⟨gb215, 3, none⟩ = some (.int .i64 a0_3) := (blk_cell BK215.out 3).trans rfl; have hfz36_0 := blk_frozen BK215.out 0; have hfz36_1 := blk_frozen BK215.out 1; have hfz36_2 := blk_frozen BK215.out 2; have hfz36_3 := blk_frozen BK215.out 3) | ((with_reducible refine gate_callee (f := 15) rfl ?_); refine goesL_ (some 35) rfl rfl Try.func15 (by kernel_rfl) rfl #[.agg #[.int .i64 a0_0, .int .i64 a0_1, .int .i64 a0_2, .int .i64 a0_3], .slice A1 l1.length c1, .int .i64 x10_2] rfl (by (try simp only [List.map_toArray, List.map_cons, List.map_nil]); first | done | rfl | (simp only [List.length_drop, List.length_take]; rfl)) ?_; (with_reducible refine (almshouseref37_Lane.calls k2 a0_0 a0_1 a0_2 a0_3 _ _ l1 x10_2 t220 _ ?side1 ?side2 A11.out).mono ?_); (case side1 => repeat (first | exact (Kd.C_below HR1.out HB.out) | (with_reducible refine Kd.C_alloc ?_ _) | (with_reducible refine Kd.C_drewN ?_ _) | (with_reducible refine Kd.C_drew ?_))); (case side2 => exact HC1.out); rintro e w37 ⟨v221, rfl, ho0, hb⟩; refine ⟨_, rfl, ?_⟩; have n0_ := Aside0.mk (Kd.R_elder' (by (with_reducible repeat (first | apply Kd.R_alloc | apply Kd.R_drewN | apply Kd.R_drew)); exact HO_8.out) (Kd.R_base ho0) hb); have n1_ := Aside0.mk (Kd.R_elder' (by (with_reducible repeat (first | apply Kd.R_alloc | apply Kd.R_drewN | apply Kd.R_drew)); exact HO218.out) (Kd.R_base ho0) hb); have n2_ := Aside0.mk (Kd.R_lower (Kd.R_new' (Kd.R_new' ho0 (Kd.R_lt (by (with_reducible repeat (first | apply Kd.R_alloc | apply Kd.R_drewN | apply Kd.R_drew)); exact HO_8.out))) (Kd.R_lt (by (with_reducible repeat (first | apply Kd.R_alloc | apply Kd.R_drewN | apply Kd.R_drew)); exact HO218.out))) (below_size (by repeat (first | (with_reducible first | exact HB.out | apply below_alloc | apply pw_below_drewN | apply below_drew1 | refine below_set ?_ GE215.out) | exact HB.out)))); have n3_ := Aside0.mk (blk_below (g := gb215) (o := .cells #[.int .i64 a0_0, .int .i64 a0_1, .int .i64 a0_2, .int .i64 a0_3] 23 (0, 0)) (by (with_reducible repeat (first | refine blk_drewN ?_ _ | refine blk_drew ?_ | refine blk_alloc ?_ _)); exact BK215.out) hb); have n4_ := Aside0.mk (below_step (by repeat (first | (with_reducible first | exact HB.out | apply below_alloc | apply pw_below_drewN | apply below_drew1 | refine below_set ?_ GE215.out) | exact HB.out)) hb); clear HO_8; clear HO218; clear BK215; clear HB; have HO_8 := n0_; have HO218 := n1_; have HO222 := n2_; have BK215 := n3_; have HB := n4_; clear n0_ n1_ n2_ n3_ n4_; (try clear hb); (try clear hb2); (try clear hk); (try clear hi); (try clear ho0); obtain ⟨Ao38, co38, eo38⟩ := Kd.R_slice HO222.out; subst eo38; have hcz39_0 : w37.cell? ⟨gb215, 0, none⟩ = some (.int .i64 a0_0) := (blk_cell BK215.out 0).trans rfl; have hcz39_1 : w37.cell? ⟨gb215, 1, none⟩ = some (.int .i64 a0_1) := (blk_cell BK215.out 1).trans rfl; have hcz39_2 : w37.cell? ⟨gb215, 2, none⟩ = some (.int .i64 a0_2) := (blk_cell BK215.out 2).trans rfl; have hcz39_3 : w37.cell? ⟨gb215, 3, none⟩ = some (.int .i64 a0_3) := (blk_cell BK215.out 3).trans rfl; have hfz39_0 := blk_frozen BK215.out 0; have hfz39_1 := blk_frozen BK215.out 1; have hfz39_2 := blk_frozen BK215.out 2; have hfz39_3 := blk_frozen BK215.out 3) | (go_at_call 12; (with_reducible refine (almshouseref37_Loads.calls k2 a0_0 a0_1 a0_2 a0_3 _ _ x8_1 t223 _ ?side1 ?side2 A20.out).mono ?_); (case side1 => repeat (first | exact (Kd.R_reads' HO_8.out).2.2 | (with_reducible refine Kd.C_alloc ?_ _) | (with_reducible refine Kd.C_drewN ?_ _) | (with_reducible refine Kd.C_drew ?_))); (case side2 => exact (Kd.R_reads' HO_8.out).2.1); rintro e w40 ⟨v224, rfl, ho0, hb⟩; have n0_ := Aside0.mk (Kd.R_elder' (by (with_reducible repeat (first | apply Kd.R_alloc | apply Kd.R_drewN | apply Kd.R_drew)); exact HO_8.out) (Kd.R_base ho0) hb); have n1_ := Aside0.mk (Kd.R_elder' (by (with_reducible repeat (first | apply Kd.R_alloc | apply Kd.R_drewN | apply Kd.R_drew)); exact HO218.out) (Kd.R_base ho0) hb); have n2_ := Aside0.mk (Kd.R_elder' (by (with_reducible repeat (first | apply Kd.R_alloc | apply Kd.R_drewN | apply Kd.R_drew)); exact HO222.out) (Kd.R_base ho0) hb); have n3_ := Aside0.mk (Kd.R_lower (Kd.R_new' (Kd.R_new' (Kd.R_new' ho0 (Kd.R_lt (by (with_reducible repeat (first | apply Kd.R_alloc | apply Kd.R_drewN | apply Kd.R_drew)); exact HO_8.out))) (Kd.R_lt (by (with_reducible repeat (first | apply Kd.R_alloc | apply Kd.R_drewN | apply Kd.R_drew)); exact HO218.out))) (Kd.R_lt (by (with_reducible repeat (first | apply Kd.R_alloc | apply Kd.R_drewN | apply Kd.R_drew)); exact HO222.out))) (below_size (by repeat (first | (with_reducible first | exact HB.out | apply below_alloc | apply pw_below_drewN | apply below_drew1 | refine below_set ?_ GE215.out) | exact HB.out)))); have n4_ := Aside0.mk (blk_below (g := gb215) (o := .cells #[.int .i64 a0_0, .int .i64 a0_1, .int .i64 a0_2, .int .i64 a0_3] 23 (0, 0)) (by (with_reducible repeat (first | refine blk_drewN ?_ _ | refine blk_drew ?_ | refine blk_alloc ?_ _)); exact BK215.out) hb); have n5_ := Aside0.mk (below_step (by repeat (first | (with_reducible first | exact HB.out | apply below_alloc | apply pw_below_drewN | apply below_drew1 | refine below_set ?_ GE215.out) | exact HB.out)) hb); clear HO_8; clear HO218; clear HO222; clear BK215; clear HB; have HO_8 := n0_; have HO218 := n1_; have HO222 := n2_; have HO225 := n3_; have BK215 := n4_; have HB := n5_; clear n0_ n1_ n2_ n3_ n4_ n5_; (try clear hb); (try clear hb2); (try clear hk); (try clear hi); (try clear ho0); obtain ⟨Ao41, co41, eo41⟩ := Kd.R_slice HO225.out; subst eo41; have p226 : 0 ≤ (x9_2 : Int) := of_decide_eq_true (by first | (with_reducible assumption) | assumption); have q226 : x9_2 < (t223.length : Int) := of_decide_eq_true (by first | (with_reducible assumption) | assumption); obtain ⟨ad226, e226, hx226_0⟩ := Kd.at_int (Kd.R_reads' HO225.out).2.2 x9_2 p226 q226; cases e226; replace p226 := eq_true p226; replace q226 := eq_true q226))
              go_roundg k2
              case measure => have := HK1.out; have := HK2.out; omega
              case rel => exact ⟨(x9_2), (wrap64 (x10_2 + 1)), (by first | rfl | (simp; done) | (simp [*]; done)), (by first | rfl | (simp; done) | (simp [*]; done)), H', ⟨by have := HK1.out; have := HK2.out; omega⟩, ⟨by (with_reducible repeat (first | apply Kd.R_alloc | apply Kd.R_drewN | apply Kd.R_drew)); exact Kd.R_mono HO_8.out (fun _ hk => trivial)⟩, ⟨by (with_reducible repeat (first | refine blk_drewN ?_ _ | refine blk_drew ?_ | refine blk_alloc ?_ _)); exact BK215.out⟩, ⟨by repeat (first | (with_reducible first | exact HB.out | apply below_alloc | apply pw_below_drewN | apply below_drew1 | refine below_set ?_ GE215.out) | exact HB.out)⟩⟩
            ·rw [if_neg c22] at H
             exact absurd H (by simp)
           ·rw [if_neg c21] at H
            exact absurd H (by simp)
         ·rw [if_neg c12] at H
          have c12b0 : decide ((rd t216 x10_2) < (t220.length : Int)) = false := decide_eq_false c12
          clear c12
          have H' := Aside0.mk H
          clear H
          have hcz42_0 : wr.cell? ⟨gb215, 0, none⟩ = some (.int .i64 a0_0) := (blk_cell BK215.out 0).trans rfl
          have hcz42_1 : wr.cell? ⟨gb215, 1, none⟩ = some (.int .i64 a0_1) := (blk_cell BK215.out 1).trans rfl
          have hcz42_2 : wr.cell? ⟨gb215, 2, none⟩ = some (.int .i64 a0_2) := (blk_cell BK215.out 2).trans rfl
          have hcz42_3 : wr.cell? ⟨gb215, 3, none⟩ = some (.int .i64 a0_3) := (blk_cell BK215.out 3).trans rfl
          have hfz42_0 := blk_frozen BK215.out 0
          have hfz42_1 := blk_frozen BK215.out 1
          have hfz42_2 := blk_frozen BK215.out 2
          have hfz42_3 := blk_frozen BK215.out 3
          go_wp2_with (first | ((with_reducible refine gate_callee (f := 12) rfl ?_); refine goesL_ (some 27) rfl rfl Try.func12 (by kernel_rfl) rfl #[.agg #[.int .i64 a0_0, .int .i64 a0_1, .int .i64 a0_2, .int .i64 a0_3], .slice Ao6 x8_1.length co6] rfl (by (try simp only [List.map_toArray, List.map_cons, List.map_nil]); first | done | rfl | (simp only [List.length_drop, List.length_take]; rfl)) ?_; (with_reducible refine (almshouseref37_Loads.calls k2 a0_0 a0_1 a0_2 a0_3 _ _ x8_1 t216 _ ?side1 ?side2 A8.out).mono ?_); (case side1 => repeat (first | exact (Kd.R_reads' HO_8.out).2.2 | (with_reducible refine Kd.C_alloc ?_ _) | (with_reducible refine Kd.C_drewN ?_ _) | (with_reducible refine Kd.C_drew ?_))); (case side2 => exact (Kd.R_reads' HO_8.out).2.1); rintro e w43 ⟨v217, rfl, ho0, hb⟩; refine ⟨_, rfl, ?_⟩; have n0_ := Aside0.mk (Kd.R_elder' (by (with_reducible repeat (first | apply Kd.R_alloc | apply Kd.R_drewN | apply Kd.R_drew)); exact HO_8.out) (Kd.R_base ho0) hb); have n1_ := Aside0.mk (Kd.R_lower (Kd.R_new' ho0 (Kd.R_lt (by (with_reducible repeat (first | apply Kd.R_alloc | apply Kd.R_drewN | apply Kd.R_drew)); exact HO_8.out))) (below_size (by repeat (first | (with_reducible first | exact HB.out | apply below_alloc | apply pw_below_drewN | apply below_drew1 | refine below_set ?_ GE215.out) | exact HB.out)))); have n2_ := Aside0.mk (blk_below (g := gb215) (o := .cells #[.int .i64 a0_0, .int .i64 a0_1, .int .i64 a0_2, .int .i64 a0_3] 23 (0, 0)) (by (with_reducible repeat (first | refine blk_drewN ?_ _ | refine blk_drew ?_ | refine blk_alloc ?_ _)); exact BK215.out) hb); have n3_ := Aside0.mk (below_step (by repeat (first | (with_reducible first | exact HB.out | apply below_alloc | apply pw_below_drewN | apply below_drew1 | refine below_set ?_ GE215.out) | exact HB.out)) hb); clear HO_8; clear BK215; clear HB; have HO_8 := n0_; have HO218 := n1_; have BK215 := n2_; have HB := n3_; clear n0_ n1_ n2_ n3_; (try clear hb); (try clear hb2); (try clear hk); (try clear hi); (try clear ho0); obtain ⟨Ao44, co44, eo44⟩ := Kd.R_slice HO218.out; subst eo44; have p219 : 0 ≤ (x10_2 : Int) := of_decide_eq_true (by first | (with_reducible assumption) | assumption); have q219 : x10_2 < (t216.length : Int) := of_decide_eq_true (by first | (with_reducible assumption) | assumption); obtain ⟨ad219, e219, hx219_0⟩ := Kd.at_int (Kd.R_reads' HO218.out).2.2 x10_2 p219 q219; cases e219; replace p219 := eq_true p219; replace q219 := eq_true q219; have hcz45_0 : w43.cell? ⟨gb215, 0, none⟩ = some (.int .i64 a0_0) := (blk_cell BK215.out 0).trans rfl; have hcz45_1 : w43.cell? ⟨gb215, 1, none⟩ = some (.int .i64 a0_1) := (blk_cell BK215.out 1).trans rfl; have hcz45_2 : w43.cell? ⟨gb215, 2, none⟩ = some (.int .i64 a0_2) := (blk_cell BK215.out 2).trans rfl; have hcz45_3 : w43.cell? ⟨gb215, 3, none⟩ = some (.int .i64 a0_3) := (blk_cell BK215.out 3).trans rfl; have hfz45_0 := blk_frozen BK215.out 0; have hfz45_1 := blk_frozen BK215.out 1; have hfz45_2 := blk_frozen BK215.out 2; have hfz45_3 := blk_frozen BK215.out 3) | ((with_reducible refine gate_callee (f := 15) rfl ?_); refine goesL_ (some 35) rfl rfl Try.func15 (by kernel_rfl) rfl #[.agg #[.int .i64 a0_0, .int .i64 a0_1, .int .i64 a0_2, .int .i64 a0_3], .slice A1 l1.length c1, .int .i64 x10_2] rfl (by (try simp only [List.map_toArray, List.map_cons, List.map_nil]); first | done | rfl | (simp only [List.length_drop, List.length_take]; rfl)) ?_; (with_reducible refine (almshouseref37_Lane.calls k2 a0_0 a0_1 a0_2 a0_3 _ _ l1 x10_2 t220 _ ?side1 ?side2 A11.out).mono ?_); (case side1 => repeat (first | exact (Kd.C_below HR1.out HB.out) | (with_reducible refine Kd.C_alloc ?_ _) | (with_reducible refine Kd.C_drewN ?_ _) | (with_reducible refine Kd.C_drew ?_))); (case side2 => exact HC1.out); rintro e w46 ⟨v221, rfl, ho0, hb⟩; refine ⟨_, rfl, ?_⟩; have n0_ := Aside0.mk (Kd.R_elder' (by (with_reducible repeat (first | apply Kd.R_alloc | apply Kd.R_drewN | apply Kd.R_drew)); exact HO_8.out) (Kd.R_base ho0) hb); have n1_ := Aside0.mk (Kd.R_elder' (by (with_reducible repeat (first | apply Kd.R_alloc | apply Kd.R_drewN | apply Kd.R_drew)); exact HO218.out) (Kd.R_base ho0) hb); have n2_ := Aside0.mk (Kd.R_lower (Kd.R_new' (Kd.R_new' ho0 (Kd.R_lt (by (with_reducible repeat (first | apply Kd.R_alloc | apply Kd.R_drewN | apply Kd.R_drew)); exact HO_8.out))) (Kd.R_lt (by (with_reducible repeat (first | apply Kd.R_alloc | apply Kd.R_drewN | apply Kd.R_drew)); exact HO218.out))) (below_size (by repeat (first | (with_reducible first | exact HB.out | apply below_alloc | apply pw_below_drewN | apply below_drew1 | refine below_set ?_ GE215.out) | exact HB.out)))); have n3_ := Aside0.mk (blk_below (g := gb215) (o := .cells #[.int .i64 a0_0, .int .i64 a0_1, .int .i64 a0_2, .int .i64 a0_3] 23 (0, 0)) (by (with_reducible repeat (first | refine blk_drewN ?_ _ | refine blk_drew ?_ | refine blk_alloc ?_ _)); exact BK215.out) hb); have n4_ := Aside0.mk (below_step (by repeat (first | (with_reducible first | exact HB.out | apply below_alloc | apply pw_below_drewN | apply below_drew1 | refine below_set ?_ GE215.out) | exact HB.out)) hb); clear HO_8; clear HO218; clear BK215; clear HB; have HO_8 := n0_; have HO218 := n1_; have HO222 := n2_; have BK215 := n3_; have HB := n4_; clear n0_ n1_ n2_ n3_ n4_; (try clear hb); (try clear hb2); (try clear hk); (try clear hi); (try clear ho0); obtain ⟨Ao47, co47, eo47⟩ := Kd.R_slice HO222.out; subst eo47))
          go_roundg k2
          case measure => have := HK1.out; have := HK2.out; omega
          case rel => exact ⟨(x9_2), (wrap64 (x10_2 + 1)), (by first | rfl | (simp; done) | (simp [*]; done)), (by first | rfl | (simp; done) | (simp [*]; done)), H', ⟨by have := HK1.out; have := HK2.out; omega⟩, ⟨by (with_reducible repeat (first | apply Kd.R_alloc | apply Kd.R_drewN | apply Kd.R_drew)); exact Kd.R_mono HO_8.out (fun _ hk => trivial)⟩, ⟨by (with_reducible repeat (first | refine blk_drewN ?_ _ | refine blk_drew ?_ | refine blk_alloc ?_ _)); exact BK215.out⟩, ⟨by repeat (first | (with_reducible first | exact HB.out | apply below_alloc | apply pw_below_drewN | apply below_drew1 | refine below_set ?_ GE215.out) | exact HB.out)⟩⟩
        ·rw [if_neg c10] at H
         exact absurd H (by simp)
       ·rw [if_neg c9] at H
        exact absurd H (by simp)
      ·rw [if_neg c7] at H
       have c7b0 : decide (x10_2 < a0_0) = false := decide_eq_false c7
       clear c7
       by_cases c48 : x9_2 < 0
       ·rw [if_pos c48] at H
        have c48b0 : decide (x9_2 < 0) = true := decide_eq_true c48
        clear c48
        simp only [Option.some.injEq, Prod.mk.injEq] at H
        obtain ⟨rfl, rfl⟩ := H
        have hcz49_0 : wr.cell? ⟨gb215, 0, none⟩ = some (.int .i64 a0_0) := (blk_cell BK215.out 0).trans rfl
        have hcz49_1 : wr.cell? ⟨gb215, 1, none⟩ = some (.int .i64 a0_1) := (blk_cell BK215.out 1).trans rfl
        have hcz49_2 : wr.cell? ⟨gb215, 2, none⟩ = some (.int .i64 a0_2) := (blk_cell BK215.out 2).trans rfl
        have hcz49_3 : wr.cell? ⟨gb215, 3, none⟩ = some (.int .i64 a0_3) := (blk_cell BK215.out 3).trans rfl
        have hfz49_0 := blk_frozen BK215.out 0
        have hfz49_1 := blk_frozen BK215.out 1
        have hfz49_2 := blk_frozen BK215.out 2
        have hfz49_3 := blk_frozen BK215.out 3
        go_wp2
        go_ret2
        exact ⟨_, by first | rfl | (simp [errW_none, errW_some] <;> rfl) | (simp [*, errW_none, errW_some] <;> rfl), by first | exact Kd.R_nil _ _ _ _ _ | exact Kd.N_nil _ _ _ _ _ | exact Kd.V_nil _ _ _ _ _ | exact Kd.Q_nil _ _ _ _ _ | exact Kd.S_nil _ _ _ _ _, by repeat (first | (with_reducible first | exact HB.out | apply below_alloc | apply pw_below_drewN | apply below_drew1 | refine below_set ?_ GE215.out) | exact HB.out)⟩
       ·rw [if_neg c48] at H
        have c48b0 : decide (x9_2 < 0) = false := decide_eq_false c48
        clear c48
        replace H := Option.bind_eq_some_iff.mp H
        obtain ⟨t227, A500, H⟩ := H
        replace H : ((almshouseref37_Loads.f k2 a0_0 a0_1 a0_2 a0_3 x8_1).bind fun t230 => (if 0 ≤ x9_2 then (if x9_2 < (t230.length : Int) then (if 0 ≤ (rd t230 x9_2) then (if (rd t230 x9_2) < (t227.length : Int) then (if x8_1.length < 17592186044416 then (almshouseref37_Pick.l0 k2 l1 a2 (x8_1 ++ [rd t227 (rd t230 x9_2)]) a0_0 a0_1 a0_2 a0_3) else (none)) else (none)) else (none)) else (none)) else (none))) = some (r1, r2) := H
        have A50 := Aside0.mk A500
        clear A500
        replace H := Option.bind_eq_some_iff.mp H
        obtain ⟨t230, A510, H⟩ := H
        replace H : (if 0 ≤ x9_2 then (if x9_2 < (t230.length : Int) then (if 0 ≤ (rd t230 x9_2) then (if (rd t230 x9_2) < (t227.length : Int) then (if x8_1.length < 17592186044416 then (almshouseref37_Pick.l0 k2 l1 a2 (x8_1 ++ [rd t227 (rd t230 x9_2)]) a0_0 a0_1 a0_2 a0_3) else (none)) else (none)) else (none)) else (none)) else (none)) = some (r1, r2) := H
        have A51 := Aside0.mk A510
        clear A510
        by_cases c52 : 0 ≤ x9_2
        ·rw [if_pos c52] at H
         have c52b0 : decide (0 ≤ x9_2) = true := decide_eq_true c52
         clear c52
         by_cases c53 : x9_2 < (t230.length : Int)
         ·rw [if_pos c53] at H
          have c53b0 : decide (x9_2 < (t230.length : Int)) = true := decide_eq_true c53
          clear c53
          by_cases c54 : 0 ≤ (rd t230 x9_2)
          ·rw [if_pos c54] at H
           have c54b0 : decide (0 ≤ (rd t230 x9_2)) = true := decide_eq_true c54
           clear c54
           by_cases c55 : (rd t230 x9_2) < (t227.length : Int)
           ·rw [if_pos c55] at H
            have c55b0 : decide ((rd t230 x9_2) < (t227.length : Int)) = true := decide_eq_true c55
            clear c55
            by_cases c56 : x8_1.length < 17592186044416
            ·rw [if_pos c56] at H
             have LMc56 := Aside0.mk c56
             clear c56
             obtain ⟨y235, hy235⟩ : ∃ y_ : List Int, y_ = (x8_1 ++ [rd t227 (rd t230 x9_2)]) := ⟨_, rfl⟩
             replace H : (almshouseref37_Pick.l0 k2 l1 a2 y235 a0_0 a0_1 a0_2 a0_3) = some (r1, r2) := by first | (rw [hy235]; with_reducible exact H) | (have H2_ := (Option.bind_some _ _).symm.trans H; rw [hy235]; with_reducible exact H2_) | (have H2_ := (Option.bind_some _ _).symm.trans H; with_reducible exact H2_) | with_reducible exact H | (rw [hy235]; exact H) | exact H
             have Ny235 := Aside0.mk hy235
             clear hy235
             have H' := Aside0.mk H
             clear H
             have hcz57_0 : wr.cell? ⟨gb215, 0, none⟩ = some (.int .i64 a0_0) := (blk_cell BK215.out 0).trans rfl
             have hcz57_1 : wr.cell? ⟨gb215, 1, none⟩ = some (.int .i64 a0_1) := (blk_cell BK215.out 1).trans rfl
             have hcz57_2 : wr.cell? ⟨gb215, 2, none⟩ = some (.int .i64 a0_2) := (blk_cell BK215.out 2).trans rfl
             have hcz57_3 : wr.cell? ⟨gb215, 3, none⟩ = some (.int .i64 a0_3) := (blk_cell BK215.out 3).trans rfl
             have hfz57_0 := blk_frozen BK215.out 0
             have hfz57_1 := blk_frozen BK215.out 1
             have hfz57_2 := blk_frozen BK215.out 2
             have hfz57_3 := blk_frozen BK215.out 3
             try go_wp2
             have n0_ := Aside0.mk (Kd.R_drew HO_8.out)
             have n1_ := Aside0.mk (blk_drew BK215.out)
             have n2_ := Aside0.mk (below_drew1 HB.out)
             clear HO_8
             clear BK215
             clear HB
             have HO_8 := n0_
             have BK215 := n1_
             have HB := n2_
             clear n0_ n1_ n2_
             refine start_ (n := 16) (S := fun w' => w'.cell? ⟨gb215, 0, none⟩ = some (.int .i64 a0_0) ∧ w'.cell? ⟨gb215, 1, none⟩ = some (.int .i64 a0_1) ∧ w'.cell? ⟨gb215, 2, none⟩ = some (.int .i64 a0_2) ∧ w'.cell? ⟨gb215, 3, none⟩ = some (.int .i64 a0_3)) (ds := [10, 12, 13, 14]) #[false, false, false, false, false, false, false, false, false, false, false, false, false, false, false, false] (by kernel_rfl) rfl rfl ⟨(blk_cell BK215.out 0).trans rfl, (blk_cell BK215.out 1).trans rfl, (blk_cell BK215.out 2).trans rfl, (blk_cell BK215.out 3).trans rfl⟩ (fun hHeld => ?_); refine with_tabW almshouseref37_Pick.tab12 almshouseref37_Pick.bits12 (fun HT_ HW_ => ?_)
             generalize wr.drew = w58 at HO_8 BK215 HB hHeld ⊢
             refine pure_ (i := 0) (N := some 55) (v := ?_) (a' := ?_) #[true, false, false, false, false, false, false, false, false, false, false, false, false, false, false, false] rfl rfl (any_of HT_.out (by kernel_rfl)) (fun _ _ _ h => h) (Or.inl ⟨by rfl, ?_⟩) ?_ ?_
             rotate_left
             ·intro w'
              go_simp
              with_reducible rfl
             rotate_left
             ·simp only [Act.put, List.setIfInBounds_toArray, List.set_cons_zero, List.set_cons_succ, i64_w, i32_w]
              rfl
             refine pure_ (i := 2) (N := some 57) (v := ?_) (a' := ?_) #[true, false, true, false, false, false, false, false, false, false, false, false, false, false, false, false] rfl rfl (any_of HT_.out (by kernel_rfl)) (fun _ _ _ h => h) (Or.inl ⟨by rfl, ?_⟩) ?_ ?_
             rotate_left
             ·intro w'
              go_simp
              with_reducible rfl
             rotate_left
             ·simp only [Act.put, List.setIfInBounds_toArray, List.set_cons_zero, List.set_cons_succ, i64_w, i32_w]
              rfl
             refine pure_ (i := 3) (N := some 58) (v := ?_) (a' := ?_) #[true, false, true, true, false, false, false, false, false, false, false, false, false, false, false, false] rfl rfl (any_of HT_.out (by kernel_rfl)) (fun _ _ _ h => h) (Or.inl ⟨by rfl, ?_⟩) ?_ ?_
             rotate_left
             ·intro w'
              go_simp
              with_reducible rfl
             rotate_left
             ·simp only [Act.put, List.setIfInBounds_toArray, List.set_cons_zero, List.set_cons_succ, i64_w, i32_w]
              rfl
             refine pure_ (i := 6) (N := some 61) (v := ?_) (a' := ?_) #[true, false, true, true, false, false, true, false, false, false, false, false, false, false, false, false] rfl rfl (any_of HT_.out (by kernel_rfl)) (fun _ _ _ h => h) (Or.inl ⟨by rfl, ?_⟩) ?_ ?_
             rotate_left
             ·intro w'
              go_simp
              with_reducible rfl
             rotate_left
             ·simp only [Act.put, List.setIfInBounds_toArray, List.set_cons_zero, List.set_cons_succ, i64_w, i32_w]
              rfl
             refine pure_ (i := 8) (N := some 63) (v := ?_) (a' := ?_) #[true, false, true, true, false, false, true, false, true, false, false, false, false, false, false, false] rfl rfl (any_of HT_.out (by kernel_rfl)) (fun _ _ _ h => h) (Or.inl ⟨by rfl, ?_⟩) ?_ ?_
             rotate_left
             ·intro w'
              go_simp
              with_reducible rfl
             rotate_left
             ·simp only [Act.put, List.setIfInBounds_toArray, List.set_cons_zero, List.set_cons_succ, i64_w, i32_w]
              rfl
             refine take_ (i := 1) (N := some 56) (v := ?_) (a' := ?_) #[true, true, true, true, false, false, true, false, true, false, false, false, false, false, false, false] rfl rfl (take_ofW HT_.out HW_.out (by kernel_rfl)) (fun _ _ _ h => h) (Or.inl ⟨by rfl, ?_⟩) hHeld ?_ ?_
             rotate_left
             ·rintro w' ⟨s0, s1, s2, s3⟩
              go_simp
              with_reducible rfl
             rotate_left
             ·simp only [Act.put, List.setIfInBounds_toArray, List.set_cons_zero, List.set_cons_succ, i64_w, i32_w]
              rfl
             refine take_ (i := 5) (N := some 60) (v := ?_) (a' := ?_) #[true, true, true, true, false, true, true, false, true, false, false, false, false, false, false, false] rfl rfl (take_ofW HT_.out HW_.out (by kernel_rfl)) (fun _ _ _ h => h) (Or.inl ⟨by rfl, ?_⟩) hHeld ?_ ?_
             rotate_left
             ·rintro w' ⟨s0, s1, s2, s3⟩
              go_simp
              with_reducible rfl
             rotate_left
             ·simp only [Act.put, List.setIfInBounds_toArray, List.set_cons_zero, List.set_cons_succ, i64_w, i32_w]
              rfl
             refine one_ (i := 4) (N := some 59) #[true, true, true, true, true, true, true, false, true, false, false, false, false, false, false, false] rfl rfl (one_of HT_.out (by kernel_rfl)) (by decide) (fun K hK => ?_)
             refine goes_ Try.func15 (by kernel_rfl) rfl #[.agg #[.int .i64 a0_0, .int .i64 a0_1, .int .i64 a0_2, .int .i64 a0_3], .slice A1 l1.length c1, .int .i64 x9_2] (by rfl) rfl rfl (by (try simp only [List.map_toArray, List.map_cons, List.map_nil]); first | done | rfl | (simp only [List.length_drop, List.length_take]; rfl)) ?_
             with_reducible refine (almshouseref37_Lane.calls k2 a0_0 a0_1 a0_2 a0_3 _ _ l1 x9_2 t227 _ ?side1 ?side2 A50.out).mono ?_
             (case side1 => repeat (first | exact (Kd.C_below HR1.out HB.out) | (with_reducible refine Kd.C_alloc ?_ _) | (with_reducible refine Kd.C_drewN ?_ _) | (with_reducible refine Kd.C_drew ?_)))
             (case side2 => exact HC1.out)
             rintro e w59 ⟨v228, rfl, ho0, hb⟩
             refine ⟨_, rfl, ?_⟩
             have n0_ := Aside0.mk (Kd.R_elder' (by (with_reducible repeat (first | apply Kd.R_alloc | apply Kd.R_drewN | apply Kd.R_drew)); exact HO_8.out) (Kd.R_base ho0) hb)
             have n1_ := Aside0.mk (Kd.R_lower (Kd.R_new' ho0 (Kd.R_lt (by (with_reducible repeat (first | apply Kd.R_alloc | apply Kd.R_drewN | apply Kd.R_drew)); exact HO_8.out))) (below_size (by repeat (first | (with_reducible first | exact HB.out | apply below_alloc | apply pw_below_drewN | apply below_drew1 | refine below_set ?_ GE215.out) | exact HB.out))))
             have n2_ := Aside0.mk (blk_below (g := gb215) (o := .cells #[.int .i64 a0_0, .int .i64 a0_1, .int .i64 a0_2, .int .i64 a0_3] 23 (0, 0)) (by (with_reducible repeat (first | refine blk_drewN ?_ _ | refine blk_drew ?_ | refine blk_alloc ?_ _)); exact BK215.out) hb)
             have n3_ := Aside0.mk (below_step (by repeat (first | (with_reducible first | exact HB.out | apply below_alloc | apply pw_below_drewN | apply below_drew1 | refine below_set ?_ GE215.out) | exact HB.out)) hb)
             clear HO_8
             clear BK215
             clear HB
             have HO_8 := n0_
             have HO229 := n1_
             have BK215 := n2_
             have HB := n3_
             clear n0_ n1_ n2_ n3_
             (try clear hb)
             (try clear hb2)
             (try clear hk)
             (try clear hi)
             (try clear ho0)
             refine hK.out _ _ ⟨(blk_cell BK215.out 0).trans rfl, (blk_cell BK215.out 1).trans rfl, (blk_cell BK215.out 2).trans rfl, (blk_cell BK215.out 3).trans rfl⟩ (fun hHeld => ?_)
             clear hK K
             refine norm_ (a' := ?_) ?_ ?_
             rotate_left
             ·show Act.put _ (some 59) _ = _
              simp only [Act.put, List.setIfInBounds_toArray, List.set_cons_zero, List.set_cons_succ, i64_w, i32_w]
              rfl
             refine one_ (i := 7) (N := some 62) #[true, true, true, true, true, true, true, true, true, false, false, false, false, false, false, false] rfl rfl (one_of HT_.out (by kernel_rfl)) (by decide) (fun K hK => ?_)
             refine goes_ Try.func12 (by kernel_rfl) rfl #[.agg #[.int .i64 a0_0, .int .i64 a0_1, .int .i64 a0_2, .int .i64 a0_3], .slice Ao6 x8_1.length co6] (by rfl) rfl rfl (by (try simp only [List.map_toArray, List.map_cons, List.map_nil]); first | done | rfl | (simp only [List.length_drop, List.length_take]; rfl)) ?_
             with_reducible refine (almshouseref37_Loads.calls k2 a0_0 a0_1 a0_2 a0_3 _ _ x8_1 t230 _ ?side1 ?side2 A51.out).mono ?_
             (case side1 => repeat (first | exact (Kd.R_reads' HO_8.out).2.2 | (with_reducible refine Kd.C_alloc ?_ _) | (with_reducible refine Kd.C_drewN ?_ _) | (with_reducible refine Kd.C_drew ?_)))
             (case side2 => exact (Kd.R_reads' HO_8.out).2.1)
             rintro e w60 ⟨v231, rfl, ho0, hb⟩
             refine ⟨_, rfl, ?_⟩
             have n0_ := Aside0.mk (Kd.R_elder' (by (with_reducible repeat (first | apply Kd.R_alloc | apply Kd.R_drewN | apply Kd.R_drew)); exact HO_8.out) (Kd.R_base ho0) hb)
             have n1_ := Aside0.mk (Kd.R_elder' (by (with_reducible repeat (first | apply Kd.R_alloc | apply Kd.R_drewN | apply Kd.R_drew)); exact HO229.out) (Kd.R_base ho0) hb)
             have n2_ := Aside0.mk (Kd.R_lower (Kd.R_new' (Kd.R_new' ho0 (Kd.R_lt (by (with_reducible repeat (first | apply Kd.R_alloc | apply Kd.R_drewN | apply Kd.R_drew)); exact HO_8.out))) (Kd.R_lt (by (with_reducible repeat (first | apply Kd.R_alloc | apply Kd.R_drewN | apply Kd.R_drew)); exact HO229.out))) (below_size (by repeat (first | (with_reducible first | exact HB.out | apply below_alloc | apply pw_below_drewN | apply below_drew1 | refine below_set ?_ GE215.out) | exact HB.out))))
             have n3_ := Aside0.mk (blk_below (g := gb215) (o := .cells #[.int .i64 a0_0, .int .i64 a0_1, .int .i64 a0_2, .int .i64 a0_3] 23 (0, 0)) (by (with_reducible repeat (first | refine blk_drewN ?_ _ | refine blk_drew ?_ | refine blk_alloc ?_ _)); exact BK215.out) hb)
             have n4_ := Aside0.mk (below_step (by repeat (first | (with_reducible first | exact HB.out | apply below_alloc | apply pw_below_drewN | apply below_drew1 | refine below_set ?_ GE215.out) | exact HB.out)) hb)
             clear HO_8
             clear HO229
             clear BK215
             clear HB
             have HO_8 := n0_
             have HO229 := n1_
             have HO232 := n2_
             have BK215 := n3_
             have HB := n4_
             clear n0_ n1_ n2_ n3_ n4_
             (try clear hb)
             (try clear hb2)
             (try clear hk)
             (try clear hi)
             (try clear ho0)
             obtain ⟨Ao61, co61, eo61⟩ := Kd.R_slice HO232.out
             (first | subst eo61 | (injection eo61 with f1_ f2_ f3_; have f4_ := f1_.symm; have f5_ := f3_.symm; clear f1_ f2_ f3_; subst f4_; subst f5_))
             have p233 : 0 ≤ (x9_2 : Int) := of_decide_eq_true (by first | (with_reducible assumption) | assumption)
             have q233 : x9_2 < (t230.length : Int) := of_decide_eq_true (by first | (with_reducible assumption) | assumption)
             obtain ⟨ad233, e233, hx233_0⟩ := Kd.at_int (Kd.R_reads' HO232.out).2.2 x9_2 p233 q233
             cases e233
             replace p233 := eq_true p233
             replace q233 := eq_true q233
             obtain ⟨Ao62, co62, eo62⟩ := Kd.R_slice HO229.out
             (first | subst eo62 | (injection eo62 with f1_ f2_ f3_; have f4_ := f1_.symm; have f5_ := f3_.symm; clear f1_ f2_ f3_; subst f4_; subst f5_))
             have p234 : 0 ≤ ((rd t230 x9_2) : Int) := of_decide_eq_true (by first | (with_reducible assumption) | assumption)
             have q234 : (rd t230 x9_2) < (t227.length : Int) := of_decide_eq_true (by first | (with_reducible assumption) | assumption)
             obtain ⟨ad234, e234, hx234_0⟩ := Kd.at_int (Kd.R_reads' HO229.out).2.2 (rd t230 x9_2) p234 q234
             cases e234
             replace p234 := eq_true p234
             replace q234 := eq_true q234
             refine hK.out _ _ ⟨(blk_cell BK215.out 0).trans rfl, (blk_cell BK215.out 1).trans rfl, (blk_cell BK215.out 2).trans rfl, (blk_cell BK215.out 3).trans rfl⟩ (fun hHeld => ?_)
             clear hK K
             refine norm_ (a' := ?_) ?_ ?_
             rotate_left
             ·show Act.put _ (some 62) _ = _
              simp only [Act.put, List.setIfInBounds_toArray, List.set_cons_zero, List.set_cons_succ, i64_w, i32_w]
              rfl
             refine pure_ (i := 9) (N := some 64) (v := ?_) (a' := ?_) #[true, true, true, true, true, true, true, true, true, true, false, false, false, false, false, false] rfl rfl (any_of HT_.out (by kernel_rfl)) (fun _ _ _ h => h) (Or.inl ⟨by rfl, ?_⟩) ?_ ?_
             rotate_left
             ·intro w'
              go_simp
              with_reducible rfl
             rotate_left
             ·simp only [Act.put, List.setIfInBounds_toArray, List.set_cons_zero, List.set_cons_succ, i64_w, i32_w]
              rfl
             refine last_ (i := 10) (N := some 65) #[true, true, true, true, true, true, true, true, true, true, true, false, false, false, false, false] rfl rfl (one_of HT_.out (by kernel_rfl)) (by decide) (fun K hK => ?_)
             refine value_ (w1 := ?_) (v := ?_) (by rfl) rfl ?_ ?_
             rotate_left 2
             ·go_simp
              constructor
              ·rfl
              ·rfl
             refine hK.out _ _ ?_
             clear hK K
             refine norm_ (a' := ?_) ?_ ?_
             rotate_left
             ·show Act.put _ (some 65) _ = _
              simp only [Act.put, List.setIfInBounds_toArray, List.set_cons_zero, List.set_cons_succ, i64_w, i32_w]
              rfl
             refine pure_ (i := 11) (N := some 66) (v := ?_) (a' := ?_) #[true, true, true, true, true, true, true, true, true, true, true, true, false, false, false, false] rfl rfl (any_of HT_.out (by kernel_rfl)) (fun _ _ _ h => h) (Or.inl ⟨by rfl, ?_⟩) ?_ ?_
             rotate_left
             ·intro w'
              go_simp
              with_reducible rfl
             rotate_left
             ·simp only [Act.put, List.setIfInBounds_toArray, List.set_cons_zero, List.set_cons_succ, i64_w, i32_w]
              rfl
             refine last_ (i := 12) (N := some 67) #[true, true, true, true, true, true, true, true, true, true, true, true, true, false, false, false] rfl rfl (one_of HT_.out (by kernel_rfl)) (by decide) (fun K hK => ?_)
             refine value_ (w1 := ?_) (v := ?_) (by rfl) rfl ?_ ?_
             rotate_left 2
             ·go_simp
              constructor
              ·rfl
              ·rfl
             refine hK.out _ _ ?_
             clear hK K
             refine norm_ (a' := ?_) ?_ ?_
             rotate_left
             ·show Act.put _ (some 67) _ = _
              simp only [Act.put, List.setIfInBounds_toArray, List.set_cons_zero, List.set_cons_succ, i64_w, i32_w]
              rfl
             refine last_ (i := 13) (N := some 68) #[true, true, true, true, true, true, true, true, true, true, true, true, true, true, false, false] rfl rfl (one_of HT_.out (by kernel_rfl)) (by decide) (fun K hK => ?_)
             refine value_ (w1 := ?_) (v := ?_) (by rfl) rfl ?_ ?_
             rotate_left 2
             ·go_simp
              constructor
              ·rfl
              ·rfl
             refine hK.out _ _ ?_
             clear hK K
             refine norm_ (a' := ?_) ?_ ?_
             rotate_left
             ·show Act.put _ (some 68) _ = _
              simp only [Act.put, List.setIfInBounds_toArray, List.set_cons_zero, List.set_cons_succ, i64_w, i32_w]
              rfl
             refine last_ (i := 14) (N := some 69) #[true, true, true, true, true, true, true, true, true, true, true, true, true, true, true, false] rfl rfl (one_of HT_.out (by kernel_rfl)) (by decide) (fun K hK => ?_)
             refine Kd.R_append_step (Kd.int .i64) (w0 := w) w.heap.size (by rfl) (.tmp 55) (.tmp 68) 24 3 (.int .i64 0) 8 rfl Try.underlying24 info3 rfl (by decide) (by omega) (.slice Ao6 x8_1.length co6) x8_1 (rd t227 (rd t230 x9_2)) [.int .i64 (rd t227 (rd t230 x9_2))] (fun k_ => some k_ ≠ (.slice (some ad234) t227.length co62 : Value).ownBlock ∧ some k_ ≠ (.slice (some ad233) t230.length co61 : Value).ownBlock) (fun _ => False) rfl rfl ?aP (fun _ hk => hk.elim) ?aF ?aO ?aB ?aS ?aL ?_
             (case aP => exact rfl)
             (case aB => exact (by repeat (first | (with_reducible first | exact HB.out | apply below_alloc | apply pw_below_drewN | apply below_drew1 | refine below_set ?_ GE215.out) | exact HB.out)))
             (case aF => exact (fun k_ hk => ⟨Kd.fresh' (Kd.R_lt (by (with_reducible repeat (first | apply Kd.R_alloc | apply Kd.R_drewN | apply Kd.R_drew)); exact HO229.out)) k_ hk, Kd.fresh' (Kd.R_lt (by (with_reducible repeat (first | apply Kd.R_alloc | apply Kd.R_drewN | apply Kd.R_drew)); exact HO232.out)) k_ hk⟩))
             (case aO => exact (by (with_reducible repeat (first | apply Kd.R_alloc | apply Kd.R_drewN | apply Kd.R_drew)); exact Kd.R_mono HO_8.out (fun _ hk => ⟨hk.1.2, hk.2⟩)))
             (case aS => exact (below_size (by repeat (first | (with_reducible first | exact HB.out | apply below_alloc | apply pw_below_drewN | apply below_drew1 | refine below_set ?_ GE215.out) | exact HB.out))))
             (case aL => have := LMc56.out; omega)
             intro v236 w63 ho hb hg hat
             rw [← Ny235.out] at ho
             have n0_ := Aside0.mk (blk_grown (g := gb215) (o := .cells #[.int .i64 a0_0, .int .i64 a0_1, .int .i64 a0_2, .int .i64 a0_3] 23 (0, 0)) (by (with_reducible repeat (first | refine blk_drewN ?_ _ | refine blk_drew ?_ | refine blk_alloc ?_ _)); exact BK215.out) hg (Kd.R_ne HO_8.out BK215.out (by decide)))
             have n1_ := Aside0.mk (Kd.R_after (ok := (fun k_ => some k_ ≠ (.slice (some ad233) t230.length co61 : Value).ownBlock)) (by (with_reducible repeat (first | apply Kd.R_alloc | apply Kd.R_drewN | apply Kd.R_drew)); exact Kd.R_mono HO229.out (fun _ hk => ⟨hk.2, hk.1.2⟩)) hg hat)
             have n2_ := Aside0.mk (Kd.R_after (ok := (fun k_ => some k_ ≠ (.slice (some ad234) t227.length co62 : Value).ownBlock)) (by (with_reducible repeat (first | apply Kd.R_alloc | apply Kd.R_drewN | apply Kd.R_drew)); exact Kd.R_mono HO232.out (fun _ hk => ⟨hk.2, hk.1.2⟩)) hg hat)
             have n3_ := Aside0.mk (hb)
             have n4_ := Aside0.mk (ho)
             clear BK215
             clear HO229
             clear HO232
             clear HB
             clear HO_8
             have BK215 := n0_
             have HO229 := n1_
             have HO232 := n2_
             have HB := n3_
             have HO237 := n4_
             clear n0_ n1_ n2_ n3_ n4_
             clear ho hb hg hat
             refine hK.out _ _ ?_
             clear hK K
             refine norm_ (a' := ?_) ?_ ?_
             rotate_left
             ·show Act.put _ (some 69) _ = _
              simp only [Act.put, List.setIfInBounds_toArray, List.set_cons_zero, List.set_cons_succ, i64_w, i32_w]
              rfl
             refine pure_ (i := 15) (N := some 8) (v := ?_) (a' := ?_) #[true, true, true, true, true, true, true, true, true, true, true, true, true, true, true, true] rfl rfl (any_of HT_.out (by kernel_rfl)) (fun _ _ _ h => h) (Or.inl ⟨by rfl, ?_⟩) ?_ ?_
             rotate_left
             ·intro w'
              go_simp
              with_reducible rfl
             rotate_left
             ·simp only [Act.put, List.setIfInBounds_toArray, List.set_cons_zero, List.set_cons_succ, i64_w, i32_w]
              rfl
             refine done_ (done_of HT_.out (by kernel_rfl)) ?_
             try go_wp2
             go_roundg k2
             case measure => have := HK1.out; have := HK2.out; omega
             case rel => exact ⟨(y235), H', ⟨by have := HK1.out; have := HK2.out; omega⟩, ⟨by (with_reducible repeat (first | apply Kd.R_alloc | apply Kd.R_drewN | apply Kd.R_drew)); exact Kd.R_mono HO237.out (fun _ hk => trivial)⟩, ⟨by (with_reducible repeat (first | refine blk_drewN ?_ _ | refine blk_drew ?_ | refine blk_alloc ?_ _)); exact BK215.out⟩, ⟨by repeat (first | (with_reducible first | exact HB.out | apply below_alloc | apply pw_below_drewN | apply below_drew1 | refine below_set ?_ GE215.out) | exact HB.out)⟩⟩
            ·rw [if_neg c56] at H
             exact absurd H (by simp)
           ·rw [if_neg c55] at H
            exact absurd H (by simp)
          ·rw [if_neg c54] at H
           exact absurd H (by simp)
         ·rw [if_neg c53] at H
          exact absurd H (by simp)
        ·rw [if_neg c52] at H
         exact absurd H (by simp)
   ·rw [if_neg c5] at H
    have c5b0 : decide ((x8_1.length : Int) < a2) = false := decide_eq_false c5
    clear c5
    have H' := Aside0.mk H
    clear H
    obtain ⟨Ao64, co64, eo64⟩ := Kd.R_slice HO_8.out
    subst eo64
    go_wp2
    go_loopg [72] k1 (fun kq v72 w' => ∃ (x8_2 : List Int) (x72_2 : Int), v72 = .int .i64 x72_2 ∧ Aside0 (almshouseref37_Pick.l2 kq a2 x8_2 (x8_1.length : Int) x72_2 = some (r1, r2)) ∧ Aside0 (kq ≤ k1) ∧ Aside0 (Kd.R (Kd.int .i64) 3 w' w.heap.size (fun _ => True) (.slice Ao64 x8_1.length co64) x8_2) ∧ Aside0 (w'.heap[gb215]? = some (.cells #[.int .i64 a0_0, .int .i64 a0_1, .int .i64 a0_2, .int .i64 a0_3] 23 (0, 0))) ∧ Aside0 (Below w.heap.size w w'))
    case atStart => exact ⟨(x8_1), (0), (by first | rfl | (simp; done) | (simp [*]; done)), H', ⟨Nat.le_refl _⟩, ⟨by (with_reducible repeat (first | apply Kd.R_alloc | apply Kd.R_drewN | apply Kd.R_drew)); exact HO_8.out⟩, ⟨by (with_reducible repeat (first | refine blk_drewN ?_ _ | refine blk_drew ?_ | refine blk_alloc ?_ _)); exact BK215.out⟩, ⟨by repeat (first | (with_reducible first | exact HB.out | apply below_alloc | apply pw_below_drewN | apply below_drew1 | refine below_set ?_ GE215.out) | exact HB.out)⟩⟩
    case round =>
     clear H'
     try clear c1
     try clear c2
     try clear p2
     try clear q2
     try clear hx2
     try clear c4
     try clear c5
     try clear c5b0
     try clear p6
     try clear c7
     try clear c7b0
     try clear c9
     try clear c9b0
     try clear c10
     try clear c10b0
     try clear c11
     try clear c12
     try clear c12b0
     try clear c13
     try clear c13b0
     try clear c15
     try clear c21
     try clear c21b0
     try clear p21
     try clear q21
     try clear hx21
     try clear c22
     try clear c22b0
     try clear p22
     try clear q22
     try clear hx22
     try clear c23
     try clear c23b0
     try clear p23
     try clear q23
     try clear hx23
     try clear c48
     try clear c48b0
     try clear c52
     try clear c52b0
     try clear c53
     try clear c53b0
     try clear c54
     try clear c54b0
     try clear c55
     try clear c55b0
     try clear c56
     try clear p64
     try clear hcz14_0
     try clear hcz14_1
     try clear hcz14_2
     try clear hcz14_3
     try clear hcz17_0
     try clear hcz17_1
     try clear hcz17_2
     try clear hcz17_3
     try clear hcz24_0
     try clear hcz24_1
     try clear hcz24_2
     try clear hcz24_3
     try clear hcz27_0
     try clear hcz27_1
     try clear hcz27_2
     try clear hcz27_3
     try clear hcz30_0
     try clear hcz30_1
     try clear hcz30_2
     try clear hcz30_3
     try clear hcz33_0
     try clear hcz33_1
     try clear hcz33_2
     try clear hcz33_3
     try clear hcz36_0
     try clear hcz36_1
     try clear hcz36_2
     try clear hcz36_3
     try clear hcz39_0
     try clear hcz39_1
     try clear hcz39_2
     try clear hcz39_3
     try clear hcz42_0
     try clear hcz42_1
     try clear hcz42_2
     try clear hcz42_3
     try clear hcz45_0
     try clear hcz45_1
     try clear hcz45_2
     try clear hcz45_3
     try clear hcz49_0
     try clear hcz49_1
     try clear hcz49_2
     try clear hcz49_3
     try clear hcz57_0
     try clear hcz57_1
     try clear hcz57_2
     try clear hcz57_3
     try clear hfz14_0
     try clear hfz14_1
     try clear hfz14_2
     try clear hfz14_3
     try clear hfz17_0
     try clear hfz17_1
     try clear hfz17_2
     try clear hfz17_3
     try clear hfz24_0
     try clear hfz24_1
     try clear hfz24_2
     try clear hfz24_3
     try clear hfz27_0
     try clear hfz27_1
     try clear hfz27_2
     try clear hfz27_3
     try clear hfz30_0
     try clear hfz30_1
     try clear hfz30_2
     try clear hfz30_3
     try clear hfz33_0
     try clear hfz33_1
     try clear hfz33_2
     try clear hfz33_3
     try clear hfz36_0
     try clear hfz36_1
     try clear hfz36_2
     try clear hfz36_3
     try clear hfz39_0
     try clear hfz39_1
     try clear hfz39_2
     try clear hfz39_3
     try clear hfz42_0
     try clear hfz42_1
     try clear hfz42_2
     try clear hfz42_3
     try clear hfz45_0
     try clear hfz45_1
     try clear hfz45_2
     try clear hfz45_3
     try clear hfz49_0
     try clear hfz49_1
     try clear hfz49_2
     try clear hfz49_3
     try clear hfz57_0
     try clear hfz57_1
     try clear hfz57_2
     try clear hfz57_3
     try clear hx219_0
     try clear hx226_0
     try clear hx233_0
     try clear hx234_0
     try clear p2
     try clear p219
     try clear p226
     try clear p233
     try clear p234
     try clear q219
     try clear q226
     try clear q233
     try clear q234
     obtain ⟨x8_2, x72_2, rfl, HA, HK2, HO_8, BK215, HB⟩ := hrel
     have hl8_2 := (Kd.R_reads' HO_8.out).1
     rw [hl8_2] at HO_8
     (try simp only [hl8_2])
     (try simp only [hl8_2] at BK215)
     cases gk with
     | zero => exact absurd HA.out (by simp [almshouseref37_Pick.l2])
     | succ k2 =>
      have H := HA.out
      clear HA
      simp only [almshouseref37_Pick.l2] at H
      by_cases c65 : x72_2 < (x8_1.length : Int)
      ·rw [if_pos c65] at H
       have c65b0 : decide (x72_2 < (x8_1.length : Int)) = true := decide_eq_true c65
       clear c65
       rw [hl8_2] at c65b0
       have H' := Aside0.mk H
       clear H
       go_wp2
       go_loopg [13] k2 (fun kq v13 w' => ∃ (x8_3 : List Int) (x13_3 : Int), v13 = .int .i64 x13_3 ∧ Aside0 (almshouseref37_Pick.l3 kq a2 x8_3 x72_2 x13_3 (x8_1.length : Int) x72_2 = some (r1, r2)) ∧ Aside0 (kq ≤ k2) ∧ Aside0 (Kd.R (Kd.int .i64) 3 w' w.heap.size (fun _ => True) (.slice Ao64 x8_2.length co64) x8_3) ∧ Aside0 (w'.heap[gb215]? = some (.cells #[.int .i64 a0_0, .int .i64 a0_1, .int .i64 a0_2, .int .i64 a0_3] 23 (0, 0))) ∧ Aside0 (Below w.heap.size w w'))
       case atStart => exact ⟨(x8_2), (0), (by first | rfl | (simp; done) | (simp [*]; done)), H', ⟨Nat.le_refl _⟩, ⟨by (try simp only [hl8_2]); (with_reducible repeat (first | apply Kd.R_alloc | apply Kd.R_drewN | apply Kd.R_drew)); exact HO_8.out⟩, ⟨by (try simp only [hl8_2]); (with_reducible repeat (first | refine blk_drewN ?_ _ | refine blk_drew ?_ | refine blk_alloc ?_ _)); exact BK215.out⟩, ⟨by repeat (first | (with_reducible first | exact HB.out | apply below_alloc | apply pw_below_drewN | apply below_drew1 | refine below_set ?_ GE215.out) | exact HB.out)⟩⟩
       case round =>
        clear H'
        try clear c1
        try clear c2
        try clear p2
        try clear q2
        try clear hx2
        try clear c4
        try clear c5
        try clear c5b0
        try clear c6
        try clear p6
        try clear c7
        try clear c7b0
        try clear c9
        try clear c9b0
        try clear c10
        try clear c10b0
        try clear c11
        try clear c12
        try clear c12b0
        try clear c13
        try clear c13b0
        try clear c15
        try clear c21
        try clear c21b0
        try clear p21
        try clear q21
        try clear hx21
        try clear c22
        try clear c22b0
        try clear p22
        try clear q22
        try clear hx22
        try clear c23
        try clear c23b0
        try clear p23
        try clear q23
        try clear hx23
        try clear c48
        try clear c48b0
        try clear c52
        try clear c52b0
        try clear c53
        try clear c53b0
        try clear c54
        try clear c54b0
        try clear c55
        try clear c55b0
        try clear c56
        try clear p64
        try clear c65
        try clear c65b0
        try clear hcz14_0
        try clear hcz14_1
        try clear hcz14_2
        try clear hcz14_3
        try clear hcz17_0
        try clear hcz17_1
        try clear hcz17_2
        try clear hcz17_3
        try clear hcz24_0
        try clear hcz24_1
        try clear hcz24_2
        try clear hcz24_3
        try clear hcz27_0
        try clear hcz27_1
        try clear hcz27_2
        try clear hcz27_3
        try clear hcz30_0
        try clear hcz30_1
        try clear hcz30_2
        try clear hcz30_3
        try clear hcz33_0
        try clear hcz33_1
        try clear hcz33_2
        try clear hcz33_3
        try clear hcz36_0
        try clear hcz36_1
        try clear hcz36_2
        try clear hcz36_3
        try clear hcz39_0
        try clear hcz39_1
        try clear hcz39_2
        try clear hcz39_3
        try clear hcz42_0
        try clear hcz42_1
        try clear hcz42_2
        try clear hcz42_3
        try clear hcz45_0
        try clear hcz45_1
        try clear hcz45_2
        try clear hcz45_3
        try clear hcz49_0
        try clear hcz49_1
        try clear hcz49_2
        try clear hcz49_3
        try clear hcz57_0
        try clear hcz57_1
        try clear hcz57_2
        try clear hcz57_3
        try clear hfz14_0
        try clear hfz14_1
        try clear hfz14_2
        try clear hfz14_3
        try clear hfz17_0
        try clear hfz17_1
        try clear hfz17_2
        try clear hfz17_3
        try clear hfz24_0
        try clear hfz24_1
        try clear hfz24_2
        try clear hfz24_3
        try clear hfz27_0
        try clear hfz27_1
        try clear hfz27_2
        try clear hfz27_3
        try clear hfz30_0
        try clear hfz30_1
        try clear hfz30_2
        try clear hfz30_3
        try clear hfz33_0
        try clear hfz33_1
        try clear hfz33_2
        try clear hfz33_3
        try clear hfz36_0
        try clear hfz36_1
        try clear hfz36_2
        try clear hfz36_3
        try clear hfz39_0
        try clear hfz39_1
        try clear hfz39_2
        try clear hfz39_3
        try clear hfz42_0
        try clear hfz42_1
        try clear hfz42_2
        try clear hfz42_3
        try clear hfz45_0
        try clear hfz45_1
        try clear hfz45_2
        try clear hfz45_3
        try clear hfz49_0
        try clear hfz49_1
        try clear hfz49_2
        try clear hfz49_3
        try clear hfz57_0
        try clear hfz57_1
        try clear hfz57_2
        try clear hfz57_3
        try clear hx219_0
        try clear hx226_0
        try clear hx233_0
        try clear hx234_0
        try clear p2
        try clear p21
        try clear p219
        try clear p22
        try clear p226
        try clear p23
        try clear p233
        try clear p234
        try clear p6
        try clear p64
        try clear q2
        try clear q21
        try clear q219
        try clear q22
        try clear q226
        try clear q23
        try clear q233
        try clear q234
        obtain ⟨x8_3, x13_3, rfl, HA, HK3, HO_8, BK215, HB⟩ := hrel
        have hl8_3 := (Kd.R_reads' HO_8.out).1
        rw [hl8_3] at HO_8
        (try simp only [hl8_3])
        (try simp only [hl8_3] at BK215)
        cases gk with
        | zero => exact absurd HA.out (by simp [almshouseref37_Pick.l3])
        | succ k3 =>
         have H := HA.out
         clear HA
         simp only [almshouseref37_Pick.l3] at H
         by_cases c66 : x13_3 < x72_2
         ·rw [if_pos c66] at H
          have c66b0 : decide (x13_3 < x72_2) = true := decide_eq_true c66
          clear c66
          by_cases c67 : 0 ≤ x13_3
          ·rw [if_pos c67] at H
           have c67b0 : decide (0 ≤ x13_3) = true := decide_eq_true c67
           clear c67
           by_cases c68 : x13_3 < (x8_3.length : Int)
           ·rw [if_pos c68] at H
            have c68b0 : decide (x13_3 < (x8_3.length : Int)) = true := decide_eq_true c68
            clear c68
            by_cases c69 : 0 ≤ x72_2
            ·rw [if_pos c69] at H
             have c69b0 : decide (0 ≤ x72_2) = true := decide_eq_true c69
             clear c69
             by_cases c70 : x72_2 < (x8_3.length : Int)
             ·rw [if_pos c70] at H
              have c70b0 : decide (x72_2 < (x8_3.length : Int)) = true := decide_eq_true c70
              clear c70
              by_cases c71 : (rd x8_3 x13_3) > (rd x8_3 x72_2)
              ·rw [if_pos c71] at H
               have c71b0 : decide ((rd x8_3 x72_2) < (rd x8_3 x13_3)) = true := decide_eq_true c71
               clear c71
               obtain ⟨y242, hy242⟩ : ∃ y_ : List Int, y_ = (x8_3.set (x13_3 : Int).toNat (rd x8_3 x72_2)) := ⟨_, rfl⟩
               replace H : (almshouseref37_Pick.l3 k3 a2 (y242.set (x72_2 : Int).toNat (rd x8_3 x13_3)) x72_2 (wrap64 (x13_3 + 1)) (x8_1.length : Int) x72_2) = some (r1, r2) := by first | (rw [hy242]; with_reducible exact H) | (have H2_ := (Option.bind_some _ _).symm.trans H; rw [hy242]; with_reducible exact H2_) | (have H2_ := (Option.bind_some _ _).symm.trans H; with_reducible exact H2_) | with_reducible exact H | (rw [hy242]; exact H) | exact H
               have Ny242 := Aside0.mk hy242
               clear hy242
               obtain ⟨y243, hy243⟩ : ∃ y_ : List Int, y_ = (y242.set (x72_2 : Int).toNat (rd x8_3 x13_3)) := ⟨_, rfl⟩
               replace H : (almshouseref37_Pick.l3 k3 a2 y243 x72_2 (wrap64 (x13_3 + 1)) (x8_1.length : Int) x72_2) = some (r1, r2) := by first | (rw [hy243]; with_reducible exact H) | (have H2_ := (Option.bind_some _ _).symm.trans H; rw [hy243]; with_reducible exact H2_) | (have H2_ := (Option.bind_some _ _).symm.trans H; with_reducible exact H2_) | with_reducible exact H | (rw [hy243]; exact H) | exact H
               have Ny243 := Aside0.mk hy243
               clear hy243
               have H' := Aside0.mk H
               clear H
               try go_wp2
               have n0_ := Aside0.mk (Kd.R_drew HO_8.out)
               have n1_ := Aside0.mk (blk_drew BK215.out)
               have n2_ := Aside0.mk (below_drew1 HB.out)
               clear HO_8
               clear BK215
               clear HB
               have HO_8 := n0_
               have BK215 := n1_
               have HB := n2_
               clear n0_ n1_ n2_
               have p238 : 0 ≤ (x13_3 : Int) := of_decide_eq_true (by first | (with_reducible assumption) | assumption)
               have q238 : x13_3 < (x8_3.length : Int) := of_decide_eq_true (by first | (with_reducible assumption) | assumption)
               obtain ⟨ad238, e238, hx238_0⟩ := Kd.at_int (Kd.R_reads' HO_8.out).2.2 x13_3 p238 q238
               cases e238
               replace p238 := eq_true p238
               replace q238 := eq_true q238
               have p239 : 0 ≤ (x72_2 : Int) := of_decide_eq_true (by first | (with_reducible assumption) | assumption)
               have q239 : x72_2 < (x8_3.length : Int) := of_decide_eq_true (by first | (with_reducible assumption) | assumption)
               obtain ⟨ad239, e239, hx239_0⟩ := Kd.at_int (Kd.R_reads' HO_8.out).2.2 x72_2 p239 q239
               obtain rfl : ad238 = ad239 := (by injection e239)
               replace p239 := eq_true p239
               replace q239 := eq_true q239
               refine start_ (n := 9) (S := fun w' => w'.cell? (ad238.add (x13_3).toNat) = some (.int .i64 (rd x8_3 x13_3)) ∧ w'.cell? (ad238.add (x72_2).toNat) = some (.int .i64 (rd x8_3 x72_2))) (ds := []) #[false, false, false, false, false, false, false, false, false] (by kernel_rfl) rfl rfl ⟨hx238_0, hx239_0⟩ (fun hHeld => ?_); refine with_tabW almshouseref37_Pick.tab19 almshouseref37_Pick.bits19 (fun HT_ HW_ => ?_)
               generalize wr.drew = w74 at HO_8 BK215 HB hx238_0 hx239_0 hHeld ⊢
               refine pure_ (i := 0) (N := some 80) (v := ?_) (a' := ?_) #[true, false, false, false, false, false, false, false, false] rfl rfl (any_of HT_.out (by kernel_rfl)) (fun _ _ _ h => h) (Or.inl ⟨by rfl, ?_⟩) ?_ ?_
               rotate_left
               ·intro w'
                go_simp
                with_reducible rfl
               rotate_left
               ·simp only [Act.put, List.setIfInBounds_toArray, List.set_cons_zero, List.set_cons_succ, i64_w, i32_w]
                rfl
               refine pure_ (i := 1) (N := some 81) (v := ?_) (a' := ?_) #[true, true, false, false, false, false, false, false, false] rfl rfl (any_of HT_.out (by kernel_rfl)) (fun _ _ _ h => h) (Or.inl ⟨by rfl, ?_⟩) ?_ ?_
               rotate_left
               ·intro w'
                go_simp
                with_reducible rfl
               rotate_left
               ·simp only [Act.put, List.setIfInBounds_toArray, List.set_cons_zero, List.set_cons_succ, i64_w, i32_w]
                rfl
               refine pure_ (i := 2) (N := some 82) (v := ?_) (a' := ?_) #[true, true, true, false, false, false, false, false, false] rfl rfl (any_of HT_.out (by kernel_rfl)) (fun _ _ _ h => h) (Or.inl ⟨by rfl, ?_⟩) ?_ ?_
               rotate_left
               ·intro w'
                go_simp
                with_reducible rfl
               rotate_left
               ·simp only [Act.put, List.setIfInBounds_toArray, List.set_cons_zero, List.set_cons_succ, i64_w, i32_w]
                rfl
               refine pure_ (i := 4) (N := some 84) (v := ?_) (a' := ?_) #[true, true, true, false, true, false, false, false, false] rfl rfl (any_of HT_.out (by kernel_rfl)) (fun _ _ _ h => h) (Or.inl ⟨by rfl, ?_⟩) ?_ ?_
               rotate_left
               ·intro w'
                go_simp
                with_reducible rfl
               rotate_left
               ·simp only [Act.put, List.setIfInBounds_toArray, List.set_cons_zero, List.set_cons_succ, i64_w, i32_w]
                rfl
               refine pure_ (i := 5) (N := some 85) (v := ?_) (a' := ?_) #[true, true, true, false, true, true, false, false, false] rfl rfl (any_of HT_.out (by kernel_rfl)) (fun _ _ _ h => h) (Or.inl ⟨by rfl, ?_⟩) ?_ ?_
               rotate_left
               ·intro w'
                go_simp
                with_reducible rfl
               rotate_left
               ·simp only [Act.put, List.setIfInBounds_toArray, List.set_cons_zero, List.set_cons_succ, i64_w, i32_w]
                rfl
               refine pure_ (i := 6) (N := some 86) (v := ?_) (a' := ?_) #[true, true, true, false, true, true, true, false, false] rfl rfl (any_of HT_.out (by kernel_rfl)) (fun _ _ _ h => h) (Or.inl ⟨by rfl, ?_⟩) ?_ ?_
               rotate_left
               ·intro w'
                go_simp
                with_reducible rfl
               rotate_left
               ·simp only [Act.put, List.setIfInBounds_toArray, List.set_cons_zero, List.set_cons_succ, i64_w, i32_w]
                rfl
               refine take_ (i := 3) (N := some 83) (v := ?_) (a' := ?_) #[true, true, true, true, true, true, true, false, false] rfl rfl (take_ofW HT_.out HW_.out (by kernel_rfl)) (fun _ _ _ h => h) (Or.inl ⟨by rfl, ?_⟩) hHeld ?_ ?_
               rotate_left
               ·rintro w' ⟨s0, s1⟩
                go_simp
                with_reducible rfl
               rotate_left
               ·simp only [Act.put, List.setIfInBounds_toArray, List.set_cons_zero, List.set_cons_succ, i64_w, i32_w]
                rfl
               refine take_ (i := 7) (N := some 87) (v := ?_) (a' := ?_) #[true, true, true, true, true, true, true, true, false] rfl rfl (take_ofW HT_.out HW_.out (by kernel_rfl)) (fun _ _ _ h => h) (Or.inl ⟨by rfl, ?_⟩) hHeld ?_ ?_
               rotate_left
               ·rintro w' ⟨s0, s1⟩
                go_simp
                with_reducible rfl
               rotate_left
               ·simp only [Act.put, List.setIfInBounds_toArray, List.set_cons_zero, List.set_cons_succ, i64_w, i32_w]
                rfl
               refine pure_ (i := 8) (N := some 88) (v := ?_) (a' := ?_) #[true, true, true, true, true, true, true, true, true] rfl rfl (any_of HT_.out (by kernel_rfl)) (fun _ _ _ h => h) (Or.inl ⟨by rfl, ?_⟩) ?_ ?_
               rotate_left
               ·intro w'
                go_simp
                with_reducible rfl
               rotate_left
               ·simp only [Act.put, List.setIfInBounds_toArray, List.set_cons_zero, List.set_cons_succ, i64_w, i32_w]
                rfl
               refine done_ (done_of HT_.out (by kernel_rfl)) ?_
               have p240 : 0 ≤ (x13_3 : Int) := of_decide_eq_true (by first | (with_reducible assumption) | assumption)
               have q240 : x13_3 < (x8_3.length : Int) := of_decide_eq_true (by first | (with_reducible assumption) | assumption)
               obtain ⟨ad240, e240, hx240_0⟩ := Kd.at_int (Kd.R_reads' HO_8.out).2.2 x13_3 p240 q240
               obtain rfl : ad238 = ad240 := (by injection e240)
               replace p240 := eq_true p240
               replace q240 := eq_true q240
               have p241 : 0 ≤ (x72_2 : Int) := of_decide_eq_true (by first | (with_reducible assumption) | assumption)
               have q241 : x72_2 < (x8_3.length : Int) := of_decide_eq_true (by first | (with_reducible assumption) | assumption)
               obtain ⟨ad241, e241, hx241_0⟩ := Kd.at_int (Kd.R_reads' HO_8.out).2.2 x72_2 p241 q241
               obtain rfl : ad238 = ad241 := (by injection e241)
               replace p241 := eq_true p241
               replace q241 := eq_true q241
               have p72 : 0 ≤ (x13_3 : Int) := of_decide_eq_true (by first | (with_reducible assumption) | assumption)
               have q72 : (x13_3 : Int) < ((x8_3.length : Int) : Int) := of_decide_eq_true (by first | (with_reducible assumption) | assumption)
               obtain ⟨go72, co72, eo72, gb72, gl72, cl72, HG72⟩ := Kd.R_form HO_8.out (by omega)
               (first | cases eo72 | (injection eo72 with ea_ en_ ec_; (first | subst ea_ | (injection ea_ with ea_; subst ea_)); subst ec_; clear en_))
               have GB72 := Aside0.mk gb72
               have GG72 := Aside0.mk HG72
               clear gb72 gl72 HG72
               (first | simp only [add_plain] at hx238_0 | skip)
               (first | simp only [add_plain] at hx239_0 | skip)
               (first | simp only [add_plain] at hx240_0 | skip)
               (first | simp only [add_plain] at hx241_0 | skip)
               obtain ⟨hx72_0, hf72_0⟩ := Kd.R_celln 0 HO_8.out (x13_3 : Int) p72 q72
               replace p72 := eq_true p72
               replace q72 := eq_true q72
               obtain ⟨hy75_, hz75_⟩ := Kd.R_celln 0 HO_8.out (x13_3 : Int) (of_decide_eq_true (by first | (with_reducible assumption) | assumption)) (of_decide_eq_true (by first | (with_reducible assumption) | assumption))
               have HP75 := Kd.R_putg HO_8.out (x13_3 : Int) (rd x8_3 x72_2)
               try go_wp2_with (first | ((with_reducible refine gate_store (t := 3) (p := 99) rfl ?_); refine store_event (t := 3) (p := 99) (v := ?vo_w76) (w1 := (w74.setCell ⟨go72, (x13_3 : Int).toNat, none⟩ (.int .i64 (rd x8_3 x72_2)))) ?hg ?ho ?hn ?hr ?_; (case ho => rfl); (case hg => rfl); (case hn => rfl); (case hr => first | (go_simp; done) | (go_simp; rfl)); intro w76 hw; have hg : w74.grownBy w76 (some go72) := (by rw [hw]; exact HP75.2); have hp_ : Kd.R (Kd.int .i64) 3 w76 w.heap.size (fun _ => True) (.slice (some ⟨go72, 0, none⟩) x8_3.length co64) y242 := (by rw [hw, Ny242.out]; exact HP75.1); clear HP75; have n0_ := Aside0.mk (hp_); have n1_ := Aside0.mk (blk_grown (g := gb215) (o := .cells #[.int .i64 a0_0, .int .i64 a0_1, .int .i64 a0_2, .int .i64 a0_3] 23 (0, 0)) (by (with_reducible repeat (first | refine blk_drewN ?_ _ | refine blk_drew ?_ | refine blk_alloc ?_ _)); exact BK215.out) hg (Kd.R_ne HO_8.out BK215.out (by decide))); have n2_ := Aside0.mk ((by rw [hw]; exact below_set (HB.out) GB72.out : Below w.heap.size w w76)); clear HO_8; clear BK215; clear HB; have HO_8 := n0_; have BK215 := n1_; have HB := n2_; clear n0_ n1_ n2_; clear hg hw hp_; have p73 : 0 ≤ (x72_2 : Int) := of_decide_eq_true (by first | (with_reducible assumption) | assumption); have q73 : (x72_2 : Int) < ((x8_3.length : Int) : Int) := of_decide_eq_true (by first | (with_reducible assumption) | assumption); obtain ⟨hx73_0, hf73_0⟩ := Kd.R_celln 0 HO_8.out (x72_2 : Int) p73 q73; replace p73 := eq_true p73; replace q73 := eq_true q73; obtain ⟨hy77_, hz77_⟩ := Kd.R_celln 0 HO_8.out (x72_2 : Int) (of_decide_eq_true (by first | (with_reducible assumption) | assumption)) (of_decide_eq_true (by first | (with_reducible assumption) | assumption)); have HP77 := Kd.R_putg HO_8.out (x72_2 : Int) (rd x8_3 x13_3)) | ((with_reducible refine gate_store (t := 3) (p := 103) rfl ?_); refine store_event (t := 3) (p := 103) (v := ?vo_w78) (w1 := (w76.setCell ⟨go72, (x72_2 : Int).toNat, none⟩ (.int .i64 (rd x8_3 x13_3)))) ?hg ?ho ?hn ?hr ?_; (case ho => rfl); (case hg => rfl); (case hn => rfl); (case hr => first | (go_simp; done) | (go_simp; rfl)); intro w78 hw; have hg : w76.grownBy w78 (some go72) := (by rw [hw]; exact HP77.2); have hp_ : Kd.R (Kd.int .i64) 3 w78 w.heap.size (fun _ => True) (.slice (some ⟨go72, 0, none⟩) x8_3.length co64) y243 := (by rw [hw, Ny243.out]; exact HP77.1); clear HP77; have n0_ := Aside0.mk (hp_); have n1_ := Aside0.mk (blk_grown (g := gb215) (o := .cells #[.int .i64 a0_0, .int .i64 a0_1, .int .i64 a0_2, .int .i64 a0_3] 23 (0, 0)) (by (with_reducible repeat (first | refine blk_drewN ?_ _ | refine blk_drew ?_ | refine blk_alloc ?_ _)); exact BK215.out) hg (Kd.R_ne HO_8.out BK215.out (by decide))); have n2_ := Aside0.mk ((by rw [hw]; exact below_set (HB.out) GB72.out : Below w.heap.size w w78)); clear HO_8; clear BK215; clear HB; have HO_8 := n0_; have BK215 := n1_; have HB := n2_; clear n0_ n1_ n2_; clear hg hw hp_))
               (try simp only [← hl8_3])
               go_roundg k3
               case measure => have := HK1.out; have := HK2.out; have := HK3.out; omega
               case rel => exact ⟨(y243), (wrap64 (x13_3 + 1)), (by first | rfl | (simp; done) | (simp [*]; done)), H', ⟨by have := HK1.out; have := HK2.out; have := HK3.out; omega⟩, ⟨by (try simp only [hl8_2]); (try simp only [hl8_3]); (with_reducible repeat (first | apply Kd.R_alloc | apply Kd.R_drewN | apply Kd.R_drew)); exact HO_8.out⟩, ⟨by (try simp only [hl8_2]); (try simp only [hl8_3]); (with_reducible repeat (first | refine blk_drewN ?_ _ | refine blk_drew ?_ | refine blk_alloc ?_ _)); exact BK215.out⟩, ⟨by repeat (first | (with_reducible first | exact HB.out | apply below_alloc | apply pw_below_drewN | apply below_drew1 | refine below_set ?_ GE215.out) | exact HB.out)⟩⟩
              ·rw [if_neg c71] at H
               have c71b0 : decide ((rd x8_3 x72_2) < (rd x8_3 x13_3)) = false := decide_eq_false c71
               clear c71
               have H' := Aside0.mk H
               clear H
               try go_wp2
               have n0_ := Aside0.mk (Kd.R_drew HO_8.out)
               have n1_ := Aside0.mk (blk_drew BK215.out)
               have n2_ := Aside0.mk (below_drew1 HB.out)
               clear HO_8
               clear BK215
               clear HB
               have HO_8 := n0_
               have BK215 := n1_
               have HB := n2_
               clear n0_ n1_ n2_
               have p238 : 0 ≤ (x13_3 : Int) := of_decide_eq_true (by first | (with_reducible assumption) | assumption)
               have q238 : x13_3 < (x8_3.length : Int) := of_decide_eq_true (by first | (with_reducible assumption) | assumption)
               obtain ⟨ad238, e238, hx238_0⟩ := Kd.at_int (Kd.R_reads' HO_8.out).2.2 x13_3 p238 q238
               cases e238
               replace p238 := eq_true p238
               replace q238 := eq_true q238
               have p239 : 0 ≤ (x72_2 : Int) := of_decide_eq_true (by first | (with_reducible assumption) | assumption)
               have q239 : x72_2 < (x8_3.length : Int) := of_decide_eq_true (by first | (with_reducible assumption) | assumption)
               obtain ⟨ad239, e239, hx239_0⟩ := Kd.at_int (Kd.R_reads' HO_8.out).2.2 x72_2 p239 q239
               obtain rfl : ad238 = ad239 := (by injection e239)
               replace p239 := eq_true p239
               replace q239 := eq_true q239
               refine start_ (n := 9) (S := fun w' => w'.cell? (ad238.add (x13_3).toNat) = some (.int .i64 (rd x8_3 x13_3)) ∧ w'.cell? (ad238.add (x72_2).toNat) = some (.int .i64 (rd x8_3 x72_2))) (ds := []) #[false, false, false, false, false, false, false, false, false] (by kernel_rfl) rfl rfl ⟨hx238_0, hx239_0⟩ (fun hHeld => ?_); refine with_tabW almshouseref37_Pick.tab19 almshouseref37_Pick.bits19 (fun HT_ HW_ => ?_)
               generalize wr.drew = w79 at HO_8 BK215 HB hx238_0 hx239_0 hHeld ⊢
               refine pure_ (i := 0) (N := some 80) (v := ?_) (a' := ?_) #[true, false, false, false, false, false, false, false, false] rfl rfl (any_of HT_.out (by kernel_rfl)) (fun _ _ _ h => h) (Or.inl ⟨by rfl, ?_⟩) ?_ ?_
               rotate_left
               ·intro w'
                go_simp
                with_reducible rfl
               rotate_left
               ·simp only [Act.put, List.setIfInBounds_toArray, List.set_cons_zero, List.set_cons_succ, i64_w, i32_w]
                rfl
               refine pure_ (i := 1) (N := some 81) (v := ?_) (a' := ?_) #[true, true, false, false, false, false, false, false, false] rfl rfl (any_of HT_.out (by kernel_rfl)) (fun _ _ _ h => h) (Or.inl ⟨by rfl, ?_⟩) ?_ ?_
               rotate_left
               ·intro w'
                go_simp
                with_reducible rfl
               rotate_left
               ·simp only [Act.put, List.setIfInBounds_toArray, List.set_cons_zero, List.set_cons_succ, i64_w, i32_w]
                rfl
               refine pure_ (i := 2) (N := some 82) (v := ?_) (a' := ?_) #[true, true, true, false, false, false, false, false, false] rfl rfl (any_of HT_.out (by kernel_rfl)) (fun _ _ _ h => h) (Or.inl ⟨by rfl, ?_⟩) ?_ ?_
               rotate_left
               ·intro w'
                go_simp
                with_reducible rfl
               rotate_left
               ·simp only [Act.put, List.setIfInBounds_toArray, List.set_cons_zero, List.set_cons_succ, i64_w, i32_w]
                rfl
               refine pure_ (i := 4) (N := some 84) (v := ?_) (a' := ?_) #[true, true, true, false, true, false, false, false, false] rfl rfl (any_of HT_.out (by kernel_rfl)) (fun _ _ _ h => h) (Or.inl ⟨by rfl, ?_⟩) ?_ ?_
               rotate_left
               ·intro w'
                go_simp
                with_reducible rfl
               rotate_left
               ·simp only [Act.put, List.setIfInBounds_toArray, List.set_cons_zero, List.set_cons_succ, i64_w, i32_w]
                rfl
               refine pure_ (i := 5) (N := some 85) (v := ?_) (a' := ?_) #[true, true, true, false, true, true, false, false, false] rfl rfl (any_of HT_.out (by kernel_rfl)) (fun _ _ _ h => h) (Or.inl ⟨by rfl, ?_⟩) ?_ ?_
               rotate_left
               ·intro w'
                go_simp
                with_reducible rfl
               rotate_left
               ·simp only [Act.put, List.setIfInBounds_toArray, List.set_cons_zero, List.set_cons_succ, i64_w, i32_w]
                rfl
               refine pure_ (i := 6) (N := some 86) (v := ?_) (a' := ?_) #[true, true, true, false, true, true, true, false, false] rfl rfl (any_of HT_.out (by kernel_rfl)) (fun _ _ _ h => h) (Or.inl ⟨by rfl, ?_⟩) ?_ ?_
               rotate_left
               ·intro w'
                go_simp
                with_reducible rfl
               rotate_left
               ·simp only [Act.put, List.setIfInBounds_toArray, List.set_cons_zero, List.set_cons_succ, i64_w, i32_w]
                rfl
               refine take_ (i := 3) (N := some 83) (v := ?_) (a' := ?_) #[true, true, true, true, true, true, true, false, false] rfl rfl (take_ofW HT_.out HW_.out (by kernel_rfl)) (fun _ _ _ h => h) (Or.inl ⟨by rfl, ?_⟩) hHeld ?_ ?_
               rotate_left
               ·rintro w' ⟨s0, s1⟩
                go_simp
                with_reducible rfl
               rotate_left
               ·simp only [Act.put, List.setIfInBounds_toArray, List.set_cons_zero, List.set_cons_succ, i64_w, i32_w]
                rfl
               refine take_ (i := 7) (N := some 87) (v := ?_) (a' := ?_) #[true, true, true, true, true, true, true, true, false] rfl rfl (take_ofW HT_.out HW_.out (by kernel_rfl)) (fun _ _ _ h => h) (Or.inl ⟨by rfl, ?_⟩) hHeld ?_ ?_
               rotate_left
               ·rintro w' ⟨s0, s1⟩
                go_simp
                with_reducible rfl
               rotate_left
               ·simp only [Act.put, List.setIfInBounds_toArray, List.set_cons_zero, List.set_cons_succ, i64_w, i32_w]
                rfl
               refine pure_ (i := 8) (N := some 88) (v := ?_) (a' := ?_) #[true, true, true, true, true, true, true, true, true] rfl rfl (any_of HT_.out (by kernel_rfl)) (fun _ _ _ h => h) (Or.inl ⟨by rfl, ?_⟩) ?_ ?_
               rotate_left
               ·intro w'
                go_simp
                with_reducible rfl
               rotate_left
               ·simp only [Act.put, List.setIfInBounds_toArray, List.set_cons_zero, List.set_cons_succ, i64_w, i32_w]
                rfl
               refine done_ (done_of HT_.out (by kernel_rfl)) ?_
               try go_wp2
               (try simp only [← hl8_3])
               go_roundg k3
               case measure => have := HK1.out; have := HK2.out; have := HK3.out; omega
               case rel => exact ⟨(x8_3), (wrap64 (x13_3 + 1)), (by first | rfl | (simp; done) | (simp [*]; done)), H', ⟨by have := HK1.out; have := HK2.out; have := HK3.out; omega⟩, ⟨by (try simp only [hl8_2]); (try simp only [hl8_3]); (with_reducible repeat (first | apply Kd.R_alloc | apply Kd.R_drewN | apply Kd.R_drew)); exact HO_8.out⟩, ⟨by (try simp only [hl8_2]); (try simp only [hl8_3]); (with_reducible repeat (first | refine blk_drewN ?_ _ | refine blk_drew ?_ | refine blk_alloc ?_ _)); exact BK215.out⟩, ⟨by repeat (first | (with_reducible first | exact HB.out | apply below_alloc | apply pw_below_drewN | apply below_drew1 | refine below_set ?_ GE215.out) | exact HB.out)⟩⟩
             ·rw [if_neg c70] at H
              exact absurd H (by simp)
            ·rw [if_neg c69] at H
             exact absurd H (by simp)
           ·rw [if_neg c68] at H
            exact absurd H (by simp)
          ·rw [if_neg c67] at H
           exact absurd H (by simp)
         ·rw [if_neg c66] at H
          have c66b0 : decide (x13_3 < x72_2) = false := decide_eq_false c66
          clear c66
          have H' := Aside0.mk H
          clear H
          go_wp2
          (try simp only [← hl8_2, ← hl8_3])
          go_roundg k3
          case measure => have := HK1.out; have := HK2.out; have := HK3.out; omega
          case rel => exact ⟨(x8_3), (wrap64 (x72_2 + 1)), (by first | rfl | (simp; done) | (simp [*]; done)), H', ⟨by have := HK1.out; have := HK2.out; have := HK3.out; omega⟩, ⟨by (try simp only [hl8_2]); (try simp only [hl8_3]); (with_reducible repeat (first | apply Kd.R_alloc | apply Kd.R_drewN | apply Kd.R_drew)); exact HO_8.out⟩, ⟨by (try simp only [hl8_2]); (try simp only [hl8_3]); (with_reducible repeat (first | refine blk_drewN ?_ _ | refine blk_drew ?_ | refine blk_alloc ?_ _)); exact BK215.out⟩, ⟨by repeat (first | (with_reducible first | exact HB.out | apply below_alloc | apply pw_below_drewN | apply below_drew1 | refine below_set ?_ GE215.out) | exact HB.out)⟩⟩
      ·rw [if_neg c65] at H
       have c65b0 : decide (x72_2 < (x8_1.length : Int)) = false := decide_eq_false c65
       clear c65
       rw [hl8_2] at c65b0
       simp only [Option.some.injEq, Prod.mk.injEq] at H
       obtain ⟨rfl, rfl⟩ := H
       go_wp2
       go_ret2
       exact ⟨_, by first | rfl | (simp [errW_none, errW_some] <;> rfl) | (simp [*, errW_none, errW_some] <;> rfl), by (with_reducible repeat (first | apply Kd.R_alloc | apply Kd.R_drewN | apply Kd.R_drew)); exact HO_8.out, by repeat (first | (with_reducible first | exact HB.out | apply below_alloc | apply pw_below_drewN | apply below_drew1 | refine below_set ?_ GE215.out) | exact HB.out)⟩
end Go.Proofs.Yteedjokkfiglhaa.P
