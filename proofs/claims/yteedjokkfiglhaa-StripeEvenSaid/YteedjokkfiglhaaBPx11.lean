-- Cut by a program of this session (wip/pr/pack.py) to what one claim needs.
import Derived.Test.YteedjokkfiglhaaBPx0
import Derived.Test.YteedjokkfiglhaaBPx4
import Derived.Test.YteedjokkfiglhaaBPx5
import Derived.Test.YteedjokkfiglhaaBPx6
import Derived.Test.YteedjokkfiglhaaBPx7
namespace Go.Proofs.Yteedjokkfiglhaa.P
open Go.RowKit Go.Proofs.YteedjokkfiglhaaW.PrintWords Go.Proofs.YteedjokkfiglhaaW.PrintLast Go.Proofs.YteedjokkfiglhaaW.PrintMore
attribute [local go_sem] max2_int min2_int max_two min_two max_three min_three max_four min_four
set_option linter.unusedVariables false
set_option linter.unusedSimpArgs false
mutual
def almshouselaw37_StripeEven.j0 : Nat → List Int → Int → Bool → Int → Int → Int → Int → Option (Bool)
 | 0, _, _, _, _, _, _, _ => none
 | k + 1, x1, x2, x25, x292000, x292001, x292002, x292003 => if x25 = true then (some true) else ((stripe_Pick.f k x292000 x292001 x292002 x292003 x1 (wrap64 (x2))).bind fun bt294 => (almshouselaw37_StripeEven.l0 k x1 x2 bt294.1 bt294.2 0 0 x292000 0 x292000 x292001 x292002 x292003))
def almshouselaw37_StripeEven.l0 : Nat → List Int → Int → List Int → Bool → Int → Int → Int → Int → Int → Int → Int → Int → Option (Bool)
 | 0, _, _, _, _, _, _, _, _, _, _, _, _ => none
 | k + 1, x1, x2, x7, x8, x9, x10, x35, x36, x292000, x292001, x292002, x292003 => if x36 < x35 then ((almshouseref37_Lane.f k x292000 x292001 x292002 x292003 x1 x36).bind fun t298 => (almshouselaw37_StripeEven.l0 k x1 x2 x7 x8 (wrap64 (x9 + (t298.length : Int))) x10 x35 (wrap64 (x36 + 1)) x292000 x292001 x292002 x292003)) else (if (x8 != (decide ((wrap64 (x2)) ≤ x9))) = true then (some false) else (if x8 = true then ((almshouseref37_Loads.f k x292000 x292001 x292002 x292003 x7).bind fun t301 => (almshouselaw37_StripeEven.l1 k x1 x2 x7 x10 t301 (t301.length : Int) 0 x292000 x292001 x292002 x292003)) else (some ((x7.length : Int) == 0))))
def almshouselaw37_StripeEven.l1 : Nat → List Int → Int → List Int → Int → List Int → Int → Int → Int → Int → Int → Int → Option (Bool)
 | 0, _, _, _, _, _, _, _, _, _, _, _ => none
 | k + 1, x1, x2, x7, x10, x60, x61, x62, x292000, x292001, x292002, x292003 => if x62 < x61 then (if 0 ≤ x62 then (if x62 < (x60.length : Int) then (almshouselaw37_StripeEven.l1 k x1 x2 x7 (mx x10 (rd x60 x62)) x60 x61 (wrap64 (x62 + 1)) x292000 x292001 x292002 x292003) else (none)) else (none)) else (almshouselaw37_StripeEven.l2 k x1 x2 x7 x10 0 x292000 0 x292000 x292001 x292002 x292003)
def almshouselaw37_StripeEven.l2 : Nat → List Int → Int → List Int → Int → Int → Int → Int → Int → Int → Int → Int → Option (Bool)
 | 0, _, _, _, _, _, _, _, _, _, _, _ => none
 | k + 1, x1, x2, x7, x10, x14, x71, x72, x292000, x292001, x292002, x292003 => if x72 < x71 then ((almshouseref37_Lane.f k x292000 x292001 x292002 x292003 x1 x72).bind fun t305 => (almshouselaw37_StripeEven.l2 k x1 x2 x7 x10 (wrap64 (x14 + (mn (t305.length : Int) (wrap64 (x10 - 1))))) x71 (wrap64 (x72 + 1)) x292000 x292001 x292002 x292003)) else (if (x7.length : Int) = (wrap64 (x2)) then (if x10 = 0 then (some true) else (some (decide (x14 < (wrap64 (x2)))))) else (some false))
end
def almshouselaw37_StripeEven.f (k : Nat) (a0_0 : Int) (a0_1 : Int) (a0_2 : Int) (a0_3 : Int) (l1 : List Int) (a2 : Int) : Option (Bool) := (almshouselaw37_fixed.f k).bind fun t292 => (if t292 = true then (if (l1.length : Int) > 40 then (almshouselaw37_StripeEven.j0 k l1 a2 true a0_0 a0_1 a0_2 a0_3) else ((almshouseref04_Check.f k a0_0 a0_1 a0_2 a0_3).bind fun t293 => (almshouselaw37_StripeEven.j0 k l1 a2 (t293 != 0) a0_0 a0_1 a0_2 a0_3))) else (some false))
set_option maxHeartbeats 8000000 in
set_option maxRecDepth 100000 in
theorem almshouselaw37_StripeEven.calls (k : Nat) (a0_0 : Int) (a0_1 : Int) (a0_2 : Int) (a0_3 : Int) (A1 : Option Addr) (c1 : Nat) (l1 : List Int) (a2 : Int) (r : Bool) (w : World) (hr1 : Kd.C (Kd.int .i64) w A1 l1.length l1) (hc1 : l1.length ≤ c1) (h : almshouselaw37_StripeEven.f k a0_0 a0_1 a0_2 a0_3 l1 a2 = some r) :
  Calls Try.prog 4 #[.agg #[.int .i64 a0_0, .int .i64 a0_1, .int .i64 a0_2, .int .i64 a0_3], .slice A1 l1.length c1, .int .u8 a2] w fun e w' => e = .returned (.bool r) ∧ Below w.heap.size w w' := by
 have hu23 := Try.underlying23
 have HR1 := Aside0.mk hr1
 have HC1 := Aside0.mk hc1
 clear hr1 hc1
 have HB := Aside0.mk (Below.refl w.heap.size w)
 have H : ((almshouselaw37_fixed.f k).bind fun t292 => (if t292 = true then (if (l1.length : Int) > 40 then (almshouselaw37_StripeEven.j0 k l1 a2 true a0_0 a0_1 a0_2 a0_3) else ((almshouseref04_Check.f k a0_0 a0_1 a0_2 a0_3).bind fun t293 => (almshouselaw37_StripeEven.j0 k l1 a2 (t293 != 0) a0_0 a0_1 a0_2 a0_3))) else (some false))) = some r := h
 clear h
 replace H := Option.bind_eq_some_iff.mp H
 obtain ⟨t292, A40, H⟩ := H
 replace H : (if t292 = true then (if (l1.length : Int) > 40 then (almshouselaw37_StripeEven.j0 k l1 a2 true a0_0 a0_1 a0_2 a0_3) else ((almshouseref04_Check.f k a0_0 a0_1 a0_2 a0_3).bind fun t293 => (almshouselaw37_StripeEven.j0 k l1 a2 (t293 != 0) a0_0 a0_1 a0_2 a0_3))) else (some false)) = some r := H
 have A4 := Aside0.mk A40
 clear A40
 by_cases c5 : t292 = true
 ·subst c5
  have H1 : (if (l1.length : Int) > 40 then (almshouselaw37_StripeEven.j0 k l1 a2 true a0_0 a0_1 a0_2 a0_3) else ((almshouseref04_Check.f k a0_0 a0_1 a0_2 a0_3).bind fun t293 => (almshouselaw37_StripeEven.j0 k l1 a2 (t293 != 0) a0_0 a0_1 a0_2 a0_3))) = some r := by rw [if_pos rfl] at H; exact H
  clear H
  have H := H1
  clear H1
  have HC6 := Aside0.mk H
  clear H
  go_enter Try.func4, Try.ntmps4
  go_upto_region 3 with (first | ((with_reducible refine gate_dst (N := 3) rfl ?_); refine box_event ?hg (N := 3) ?hd (cs := #[.int .i64 a0_0, .int .i64 a0_1, .int .i64 a0_2, .int .i64 a0_3]) (t := 23) ?hr ?_; (case hd => rfl); (case hg => rfl); (case hr => first | (go_simp; done) | (go_simp; rfl)); intro gb291 hg w7 hbox hb; have n0_ := Aside0.mk (below_step (by repeat (first | (with_reducible first | exact HB.out | apply below_alloc | apply pw_below_drewN | apply below_drew1) | exact HB.out)) hb); have n1_ := Aside0.mk (hbox); have n2_ := Aside0.mk ((by rw [hg]; exact (below_size (by repeat (first | (with_reducible first | exact HB.out | apply below_alloc | apply pw_below_drewN | apply below_drew1) | exact HB.out))) : w.heap.size ≤ gb291)); have n3_ := Aside0.mk ((by rw [hg]; exact (below_size (by repeat (first | (with_reducible first | exact HB.out | apply below_alloc | apply pw_below_drewN | apply below_drew1) | exact HB.out))) : w.heap.size ≤ gb291)); clear HB; have HB := n0_; have BK291 := n1_; have GW291 := n2_; have GE291 := n3_; clear n0_ n1_ n2_ n3_; clear hb hbox hg) | ((with_reducible refine gate_callee (f := 5) rfl ?_); refine goesL_ (some 16) rfl rfl Try.func5 (by kernel_rfl) rfl #[] rfl (by (try simp only [List.map_toArray, List.map_cons, List.map_nil]); first | done | rfl | (simp only [List.length_drop, List.length_take]; rfl)) ?_; (with_reducible refine (almshouselaw37_fixed.calls k  true _ A4.out).mono ?_); rintro e w8 ⟨rfl, hb⟩; refine ⟨_, rfl, ?_⟩; have n0_ := Aside0.mk (blk_below (g := gb291) (o := .cells #[.int .i64 a0_0, .int .i64 a0_1, .int .i64 a0_2, .int .i64 a0_3] 23 (0, 0)) (by (with_reducible repeat (first | refine blk_drewN ?_ _ | refine blk_drew ?_ | refine blk_alloc ?_ _)); exact BK291.out) hb); have n1_ := Aside0.mk (below_step (by repeat (first | (with_reducible first | exact HB.out | apply below_alloc | apply pw_below_drewN | apply below_drew1 | refine below_set ?_ GE291.out) | exact HB.out)) hb); clear BK291; clear HB; have BK291 := n0_; have HB := n1_; clear n0_ n1_; (try clear hb); (try clear hb2); (try clear hk); (try clear hi)))
  (try simp only [Act.put, List.setIfInBounds_toArray, List.set_cons_zero, List.set_cons_succ])
  go_cut [25] (fun v25 wc => ∃ (kq : Nat) (x25_5 : Bool), v25 = .bool x25_5 ∧ Aside0 (almshouselaw37_StripeEven.j0 kq l1 a2 x25_5 a0_0 a0_1 a0_2 a0_3 = some r) ∧ Aside0 (kq ≤ k) ∧ Aside0 (wc.heap[gb291]? = some (.cells #[.int .i64 a0_0, .int .i64 a0_1, .int .i64 a0_2, .int .i64 a0_3] 23 (0, 0))) ∧ Aside0 (Below w.heap.size w wc))
  case first =>
   have H := HC6.out
   clear HC6
   by_cases c9 : (l1.length : Int) > 40
   ·rw [if_pos c9] at H
    have c9b0 : decide (40 < (l1.length : Int)) = true := decide_eq_true c9
    have c9b1 : decide (40 < l1.length) = true := decide_eq_true (by omega)
    clear c9
    (first | rw [c9b0] | (simp only [i64_w, i32_w]; rw [c9b0]) | skip)
    have H' := Aside0.mk H
    clear H
    go_wp2
    go_meet
    case rel => exact ⟨_, (true), (by first | rfl | (simp; done) | (simp [*]; done)), H', ⟨by first | omega | exact Nat.le_refl _⟩, ⟨by (with_reducible repeat (first | refine blk_drewN ?_ _ | refine blk_drew ?_ | refine blk_alloc ?_ _)); exact BK291.out⟩, ⟨by repeat (first | (with_reducible first | exact HB.out | apply below_alloc | apply pw_below_drewN | apply below_drew1 | refine below_set ?_ GE291.out) | exact HB.out)⟩⟩
   ·rw [if_neg c9] at H
    have c9b0 : decide (40 < (l1.length : Int)) = false := decide_eq_false c9
    have c9b1 : decide (40 < l1.length) = false := decide_eq_false (by omega)
    clear c9
    (first | rw [c9b0] | (simp only [i64_w, i32_w]; rw [c9b0]) | skip)
    replace H := Option.bind_eq_some_iff.mp H
    obtain ⟨t293, A100, H⟩ := H
    replace H : (almshouselaw37_StripeEven.j0 k l1 a2 (t293 != 0) a0_0 a0_1 a0_2 a0_3) = some r := H
    have A10 := Aside0.mk A100
    clear A100
    have H' := Aside0.mk H
    clear H
    have hcz11_0 : w8.cell? ⟨gb291, 0, none⟩ = some (.int .i64 a0_0) := (blk_cell BK291.out 0).trans rfl
    have hcz11_1 : w8.cell? ⟨gb291, 1, none⟩ = some (.int .i64 a0_1) := (blk_cell BK291.out 1).trans rfl
    have hcz11_2 : w8.cell? ⟨gb291, 2, none⟩ = some (.int .i64 a0_2) := (blk_cell BK291.out 2).trans rfl
    have hcz11_3 : w8.cell? ⟨gb291, 3, none⟩ = some (.int .i64 a0_3) := (blk_cell BK291.out 3).trans rfl
    have hfz11_0 := blk_frozen BK291.out 0
    have hfz11_1 := blk_frozen BK291.out 1
    have hfz11_2 := blk_frozen BK291.out 2
    have hfz11_3 := blk_frozen BK291.out 3
    go_wp2_with (first | (go_at_call 7; (with_reducible refine (almshouseref04_Check.calls k a0_0 a0_1 a0_2 a0_3 t293 _ A10.out).mono ?_); rintro e w12 ⟨rfl, hb⟩; have n0_ := Aside0.mk (blk_below (g := gb291) (o := .cells #[.int .i64 a0_0, .int .i64 a0_1, .int .i64 a0_2, .int .i64 a0_3] 23 (0, 0)) (by (with_reducible repeat (first | refine blk_drewN ?_ _ | refine blk_drew ?_ | refine blk_alloc ?_ _)); exact BK291.out) hb); have n1_ := Aside0.mk (below_step (by repeat (first | (with_reducible first | exact HB.out | apply below_alloc | apply pw_below_drewN | apply below_drew1 | refine below_set ?_ GE291.out) | exact HB.out)) hb); clear BK291; clear HB; have BK291 := n0_; have HB := n1_; clear n0_ n1_; (try clear hb); (try clear hb2); (try clear hk); (try clear hi)))
    go_meet
    case rel => exact ⟨_, ((t293 != 0)), (by first | rfl | (simp; done) | (simp [*]; done)), H', ⟨by first | omega | exact Nat.le_refl _⟩, ⟨by (with_reducible repeat (first | refine blk_drewN ?_ _ | refine blk_drew ?_ | refine blk_alloc ?_ _)); exact BK291.out⟩, ⟨by repeat (first | (with_reducible first | exact HB.out | apply below_alloc | apply pw_below_drewN | apply below_drew1 | refine below_set ?_ GE291.out) | exact HB.out)⟩⟩
  case rest =>
   clear HC6
   try clear c1
   try clear p2
   try clear c4
   try clear c5
   try clear c9
   try clear c9b0
   try clear c9b1
   try clear hcz11_0
   try clear hcz11_1
   try clear hcz11_2
   try clear hcz11_3
   try clear hfz11_0
   try clear hfz11_1
   try clear hfz11_2
   try clear hfz11_3
   obtain ⟨kq, x25_5, rfl, HA, HJ5, BK291, HB⟩ := hcut
   cases kq with
   | zero => exact absurd HA.out (by simp [almshouselaw37_StripeEven.j0])
   | succ kj5 =>
    have H := HA.out
    clear HA
    simp only [almshouselaw37_StripeEven.j0] at H
    by_cases c13 : x25_5 = true
    ·subst c13
     have H1 : (some true) = some r := by rw [if_pos rfl] at H; exact H
     clear H
     have H := H1
     clear H1
     obtain rfl := Option.some.inj H
     go_wp2
     go_ret
     exact ⟨by first | rfl | (simp [errW_none, errW_some] <;> rfl) | (simp [*, errW_none, errW_some] <;> rfl), by repeat (first | (with_reducible first | exact HB.out | apply below_alloc | apply pw_below_drewN | apply below_drew1 | refine below_set ?_ GE291.out) | exact HB.out)⟩
    ·replace c13 := Bool.eq_false_iff.mpr c13
     subst c13
     have H1 : ((stripe_Pick.f kj5 a0_0 a0_1 a0_2 a0_3 l1 (wrap64 (a2))).bind fun bt294 => (almshouselaw37_StripeEven.l0 kj5 l1 a2 bt294.1 bt294.2 0 0 a0_0 0 a0_0 a0_1 a0_2 a0_3)) = some r := by rw [if_neg (show ¬ (false = true) by decide)] at H; exact H
     clear H
     have H := H1
     clear H1
     replace H := Option.bind_eq_some_iff.mp H
     obtain ⟨⟨t294, t297⟩, A140, H⟩ := H
     replace H : (almshouselaw37_StripeEven.l0 kj5 l1 a2 t294 t297 0 0 a0_0 0 a0_0 a0_1 a0_2 a0_3) = some r := H
     have A14 := Aside0.mk A140
     clear A140
     have H' := Aside0.mk H
     clear H
     have hcz15_0 : wc.cell? ⟨gb291, 0, none⟩ = some (.int .i64 a0_0) := (blk_cell BK291.out 0).trans rfl
     have hcz15_1 : wc.cell? ⟨gb291, 1, none⟩ = some (.int .i64 a0_1) := (blk_cell BK291.out 1).trans rfl
     have hcz15_2 : wc.cell? ⟨gb291, 2, none⟩ = some (.int .i64 a0_2) := (blk_cell BK291.out 2).trans rfl
     have hcz15_3 : wc.cell? ⟨gb291, 3, none⟩ = some (.int .i64 a0_3) := (blk_cell BK291.out 3).trans rfl
     have hfz15_0 := blk_frozen BK291.out 0
     have hfz15_1 := blk_frozen BK291.out 1
     have hfz15_2 := blk_frozen BK291.out 2
     have hfz15_3 := blk_frozen BK291.out 3
     go_wp2_with (first | ((with_reducible refine gate_callee (f := 6) rfl ?_); refine goesL_ (some 31) rfl rfl Try.func6 (by kernel_rfl) rfl #[.agg #[.int .i64 a0_0, .int .i64 a0_1, .int .i64 a0_2, .int .i64 a0_3], .slice A1 l1.length c1, .int .i64 (wrap64 (a2))] rfl (by (try simp only [List.map_toArray, List.map_cons, List.map_nil]); first | done | rfl | (simp only [List.length_drop, List.length_take]; rfl)) ?_; (with_reducible refine (stripe_Pick.calls kj5 a0_0 a0_1 a0_2 a0_3 _ _ l1 (wrap64 (a2)) t294 t297 _ ?side1 ?side2 A14.out).mono ?_); (case side1 => repeat (first | exact (Kd.C_below HR1.out HB.out) | (with_reducible refine Kd.C_alloc ?_ _) | (with_reducible refine Kd.C_drewN ?_ _) | (with_reducible refine Kd.C_drew ?_))); (case side2 => exact HC1.out); rintro e w16 ⟨v295, rfl, ho0, hb⟩; refine ⟨_, rfl, ?_⟩; have n0_ := Aside0.mk (Kd.R_lower ho0 (below_size (by repeat (first | (with_reducible first | exact HB.out | apply below_alloc | apply pw_below_drewN | apply below_drew1 | refine below_set ?_ GE291.out) | exact HB.out)))); have n1_ := Aside0.mk (blk_below (g := gb291) (o := .cells #[.int .i64 a0_0, .int .i64 a0_1, .int .i64 a0_2, .int .i64 a0_3] 23 (0, 0)) (by (with_reducible repeat (first | refine blk_drewN ?_ _ | refine blk_drew ?_ | refine blk_alloc ?_ _)); exact BK291.out) hb); have n2_ := Aside0.mk (below_step (by repeat (first | (with_reducible first | exact HB.out | apply below_alloc | apply pw_below_drewN | apply below_drew1 | refine below_set ?_ GE291.out) | exact HB.out)) hb); clear BK291; clear HB; have HO296 := n0_; have BK291 := n1_; have HB := n2_; clear n0_ n1_ n2_; (try clear hb); (try clear hb2); (try clear hk); (try clear hi); (try clear ho0); have hcz17_0 : w16.cell? ⟨gb291, 0, none⟩ = some (.int .i64 a0_0) := (blk_cell BK291.out 0).trans rfl; have hcz17_1 : w16.cell? ⟨gb291, 1, none⟩ = some (.int .i64 a0_1) := (blk_cell BK291.out 1).trans rfl; have hcz17_2 : w16.cell? ⟨gb291, 2, none⟩ = some (.int .i64 a0_2) := (blk_cell BK291.out 2).trans rfl; have hcz17_3 : w16.cell? ⟨gb291, 3, none⟩ = some (.int .i64 a0_3) := (blk_cell BK291.out 3).trans rfl; have hfz17_0 := blk_frozen BK291.out 0; have hfz17_1 := blk_frozen BK291.out 1; have hfz17_2 := blk_frozen BK291.out 2; have hfz17_3 := blk_frozen BK291.out 3))
     go_loopg [9, 36] kj5 (fun kq v9 v36 w' => ∃ (x9_2 : Int) (x36_2 : Int), v9 = .int .i64 x9_2 ∧ v36 = .int .i64 x36_2 ∧ Aside0 (almshouselaw37_StripeEven.l0 kq l1 a2 t294 t297 x9_2 0 a0_0 x36_2 a0_0 a0_1 a0_2 a0_3 = some r) ∧ Aside0 (kq ≤ kj5) ∧ Aside0 (Kd.R (Kd.int .i64) 3 w' w.heap.size (fun _ => True) v295 t294) ∧ Aside0 (w'.heap[gb291]? = some (.cells #[.int .i64 a0_0, .int .i64 a0_1, .int .i64 a0_2, .int .i64 a0_3] 23 (0, 0))) ∧ Aside0 (Below w.heap.size w w'))
     case atStart => exact ⟨(0), (0), (by first | rfl | (simp; done) | (simp [*]; done)), (by first | rfl | (simp; done) | (simp [*]; done)), H', ⟨Nat.le_refl _⟩, ⟨by (with_reducible repeat (first | apply Kd.R_alloc | apply Kd.R_drewN | apply Kd.R_drew)); exact HO296.out⟩, ⟨by (with_reducible repeat (first | refine blk_drewN ?_ _ | refine blk_drew ?_ | refine blk_alloc ?_ _)); exact BK291.out⟩, ⟨by repeat (first | (with_reducible first | exact HB.out | apply below_alloc | apply pw_below_drewN | apply below_drew1 | refine below_set ?_ GE291.out) | exact HB.out)⟩⟩
     case round =>
      clear H'
      try clear c1
      try clear p2
      try clear c4
      try clear c5
      try clear c6
      try clear p6
      try clear c9
      try clear c9b0
      try clear c9b1
      try clear c13
      try clear hcz11_0
      try clear hcz11_1
      try clear hcz11_2
      try clear hcz11_3
      try clear hcz15_0
      try clear hcz15_1
      try clear hcz15_2
      try clear hcz15_3
      try clear hcz17_0
      try clear hcz17_1
      try clear hcz17_2
      try clear hcz17_3
      try clear hfz11_0
      try clear hfz11_1
      try clear hfz11_2
      try clear hfz11_3
      try clear hfz15_0
      try clear hfz15_1
      try clear hfz15_2
      try clear hfz15_3
      try clear hfz17_0
      try clear hfz17_1
      try clear hfz17_2
      try clear hfz17_3
      try clear p2
      obtain ⟨x9_2, x36_2, rfl, rfl, HA, HK2, HO_7, BK291, HB⟩ := hrel
      cases gk with
      | zero => exact absurd HA.out (by simp [almshouselaw37_StripeEven.l0])
      | succ k2 =>
       have H := HA.out
       clear HA
       simp only [almshouselaw37_StripeEven.l0] at H
       by_cases c18 : x36_2 < a0_0
       ·rw [if_pos c18] at H
        have c18b0 : decide (x36_2 < a0_0) = true := decide_eq_true c18
        clear c18
        replace H := Option.bind_eq_some_iff.mp H
        obtain ⟨t298, A190, H⟩ := H
        replace H : (almshouselaw37_StripeEven.l0 k2 l1 a2 t294 t297 (wrap64 (x9_2 + (t298.length : Int))) 0 a0_0 (wrap64 (x36_2 + 1)) a0_0 a0_1 a0_2 a0_3) = some r := H
        have A19 := Aside0.mk A190
        clear A190
        have H' := Aside0.mk H
        clear H
        have hcz20_0 : wr.cell? ⟨gb291, 0, none⟩ = some (.int .i64 a0_0) := (blk_cell BK291.out 0).trans rfl
        have hcz20_1 : wr.cell? ⟨gb291, 1, none⟩ = some (.int .i64 a0_1) := (blk_cell BK291.out 1).trans rfl
        have hcz20_2 : wr.cell? ⟨gb291, 2, none⟩ = some (.int .i64 a0_2) := (blk_cell BK291.out 2).trans rfl
        have hcz20_3 : wr.cell? ⟨gb291, 3, none⟩ = some (.int .i64 a0_3) := (blk_cell BK291.out 3).trans rfl
        have hfz20_0 := blk_frozen BK291.out 0
        have hfz20_1 := blk_frozen BK291.out 1
        have hfz20_2 := blk_frozen BK291.out 2
        have hfz20_3 := blk_frozen BK291.out 3
        go_wp2_with (first | ((with_reducible refine gate_callee (f := 15) rfl ?_); refine goesL_ (some 43) rfl rfl Try.func15 (by kernel_rfl) rfl #[.agg #[.int .i64 a0_0, .int .i64 a0_1, .int .i64 a0_2, .int .i64 a0_3], .slice A1 l1.length c1, .int .i64 x36_2] rfl (by (try simp only [List.map_toArray, List.map_cons, List.map_nil]); first | done | rfl | (simp only [List.length_drop, List.length_take]; rfl)) ?_; (with_reducible refine (almshouseref37_Lane.calls k2 a0_0 a0_1 a0_2 a0_3 _ _ l1 x36_2 t298 _ ?side1 ?side2 A19.out).mono ?_); (case side1 => repeat (first | exact (Kd.C_below HR1.out HB.out) | (with_reducible refine Kd.C_alloc ?_ _) | (with_reducible refine Kd.C_drewN ?_ _) | (with_reducible refine Kd.C_drew ?_))); (case side2 => exact HC1.out); rintro e w21 ⟨v299, rfl, ho0, hb⟩; refine ⟨_, rfl, ?_⟩; have n0_ := Aside0.mk (Kd.R_elder' (by (with_reducible repeat (first | apply Kd.R_alloc | apply Kd.R_drewN | apply Kd.R_drew)); exact HO_7.out) (Kd.R_base ho0) hb); have n1_ := Aside0.mk (Kd.R_lower (Kd.R_new' ho0 (Kd.R_lt (by (with_reducible repeat (first | apply Kd.R_alloc | apply Kd.R_drewN | apply Kd.R_drew)); exact HO_7.out))) (below_size (by repeat (first | (with_reducible first | exact HB.out | apply below_alloc | apply pw_below_drewN | apply below_drew1 | refine below_set ?_ GE291.out) | exact HB.out)))); have n2_ := Aside0.mk (blk_below (g := gb291) (o := .cells #[.int .i64 a0_0, .int .i64 a0_1, .int .i64 a0_2, .int .i64 a0_3] 23 (0, 0)) (by (with_reducible repeat (first | refine blk_drewN ?_ _ | refine blk_drew ?_ | refine blk_alloc ?_ _)); exact BK291.out) hb); have n3_ := Aside0.mk (below_step (by repeat (first | (with_reducible first | exact HB.out | apply below_alloc | apply pw_below_drewN | apply below_drew1 | refine below_set ?_ GE291.out) | exact HB.out)) hb); clear HO_7; clear BK291; clear HB; have HO_7 := n0_; have HO300 := n1_; have BK291 := n2_; have HB := n3_; clear n0_ n1_ n2_ n3_; (try clear hb); (try clear hb2); (try clear hk); (try clear hi); (try clear ho0); obtain ⟨Ao22, co22, eo22⟩ := Kd.R_slice HO300.out; subst eo22))
        go_roundg k2
        case measure => have := HJ5.out; have := HK2.out; omega
        case rel => exact ⟨(wrap64 (x9_2 + (t298.length : Int))), (wrap64 (x36_2 + 1)), (by first | rfl | (simp; done) | (simp [*]; done)), (by first | rfl | (simp; done) | (simp [*]; done)), H', ⟨by have := HJ5.out; have := HK2.out; omega⟩, ⟨by (with_reducible repeat (first | apply Kd.R_alloc | apply Kd.R_drewN | apply Kd.R_drew)); exact Kd.R_mono HO_7.out (fun _ hk => trivial)⟩, ⟨by (with_reducible repeat (first | refine blk_drewN ?_ _ | refine blk_drew ?_ | refine blk_alloc ?_ _)); exact BK291.out⟩, ⟨by repeat (first | (with_reducible first | exact HB.out | apply below_alloc | apply pw_below_drewN | apply below_drew1 | refine below_set ?_ GE291.out) | exact HB.out)⟩⟩
       ·rw [if_neg c18] at H
        have c18b0 : decide (x36_2 < a0_0) = false := decide_eq_false c18
        clear c18
        by_cases c23 : (t297 != (decide ((wrap64 (a2)) ≤ x9_2))) = true
        ·rw [if_pos c23] at H
         have c23b0 : (t297 != (decide ((wrap64 (a2)) ≤ x9_2))) = true := c23
         (try (have c23b1 : decide (t297 = (decide ((wrap64 (a2)) ≤ x9_2))) = false := by simpa using c23))
         (try (have c23b2 : (t297 == (decide ((wrap64 (a2)) ≤ x9_2))) = false := by simpa using c23))
         (try (have c23b3 : ¬ (t297 = (decide ((wrap64 (a2)) ≤ x9_2))) := by simpa using c23))
         clear c23
         obtain rfl := Option.some.inj H
         go_wp2
         go_ret
         exact ⟨by first | rfl | (simp [errW_none, errW_some] <;> rfl) | (simp [*, errW_none, errW_some] <;> rfl), by repeat (first | (with_reducible first | exact HB.out | apply below_alloc | apply pw_below_drewN | apply below_drew1 | refine below_set ?_ GE291.out) | exact HB.out)⟩
        ·rw [if_neg c23] at H
         have c23b0 : (t297 != (decide ((wrap64 (a2)) ≤ x9_2))) = false := by simpa using c23
         (try (have c23b1 : decide (t297 = (decide ((wrap64 (a2)) ≤ x9_2))) = true := by simpa using c23))
         (try (have c23b2 : (t297 == (decide ((wrap64 (a2)) ≤ x9_2))) = true := by simpa using c23))
         clear c23
         by_cases c24 : t297 = true
         ·subst c24
          have H1 : ((almshouseref37_Loads.f k2 a0_0 a0_1 a0_2 a0_3 t294).bind fun t301 => (almshouselaw37_StripeEven.l1 k2 l1 a2 t294 0 t301 (t301.length : Int) 0 a0_0 a0_1 a0_2 a0_3)) = some r := by rw [if_pos rfl] at H; exact H
          clear H
          have H := H1
          clear H1
          replace H := Option.bind_eq_some_iff.mp H
          obtain ⟨t301, A250, H⟩ := H
          replace H : (almshouselaw37_StripeEven.l1 k2 l1 a2 t294 0 t301 (t301.length : Int) 0 a0_0 a0_1 a0_2 a0_3) = some r := H
          have A25 := Aside0.mk A250
          clear A250
          have H' := Aside0.mk H
          clear H
          have hcz26_0 : wr.cell? ⟨gb291, 0, none⟩ = some (.int .i64 a0_0) := (blk_cell BK291.out 0).trans rfl
          have hcz26_1 : wr.cell? ⟨gb291, 1, none⟩ = some (.int .i64 a0_1) := (blk_cell BK291.out 1).trans rfl
          have hcz26_2 : wr.cell? ⟨gb291, 2, none⟩ = some (.int .i64 a0_2) := (blk_cell BK291.out 2).trans rfl
          have hcz26_3 : wr.cell? ⟨gb291, 3, none⟩ = some (.int .i64 a0_3) := (blk_cell BK291.out 3).trans rfl
          have hfz26_0 := blk_frozen BK291.out 0
          have hfz26_1 := blk_frozen BK291.out 1
          have hfz26_2 := blk_frozen BK291.out 2
          have hfz26_3 := blk_frozen BK291.out 3
          obtain ⟨Ao27, co27, eo27⟩ := Kd.R_slice HO_7.out
          subst eo27
          go_wp2_with (first | ((with_reducible refine gate_callee (f := 12) rfl ?_); refine goesL_ (some 60) rfl rfl Try.func12 (by kernel_rfl) rfl #[.agg #[.int .i64 a0_0, .int .i64 a0_1, .int .i64 a0_2, .int .i64 a0_3], .slice Ao27 t294.length co27] rfl (by (try simp only [List.map_toArray, List.map_cons, List.map_nil]); first | done | rfl | (simp only [List.length_drop, List.length_take]; rfl)) ?_; (with_reducible refine (almshouseref37_Loads.calls k2 a0_0 a0_1 a0_2 a0_3 _ _ t294 t301 _ ?side1 ?side2 A25.out).mono ?_); (case side1 => repeat (first | exact (Kd.R_reads' HO_7.out).2.2 | (with_reducible refine Kd.C_alloc ?_ _) | (with_reducible refine Kd.C_drewN ?_ _) | (with_reducible refine Kd.C_drew ?_))); (case side2 => exact (Kd.R_reads' HO_7.out).2.1); rintro e w28 ⟨v302, rfl, ho0, hb⟩; refine ⟨_, rfl, ?_⟩; have n0_ := Aside0.mk (Kd.R_elder' (by (with_reducible repeat (first | apply Kd.R_alloc | apply Kd.R_drewN | apply Kd.R_drew)); exact HO_7.out) (Kd.R_base ho0) hb); have n1_ := Aside0.mk (Kd.R_lower (Kd.R_new' ho0 (Kd.R_lt (by (with_reducible repeat (first | apply Kd.R_alloc | apply Kd.R_drewN | apply Kd.R_drew)); exact HO_7.out))) (below_size (by repeat (first | (with_reducible first | exact HB.out | apply below_alloc | apply pw_below_drewN | apply below_drew1 | refine below_set ?_ GE291.out) | exact HB.out)))); have n2_ := Aside0.mk (blk_below (g := gb291) (o := .cells #[.int .i64 a0_0, .int .i64 a0_1, .int .i64 a0_2, .int .i64 a0_3] 23 (0, 0)) (by (with_reducible repeat (first | refine blk_drewN ?_ _ | refine blk_drew ?_ | refine blk_alloc ?_ _)); exact BK291.out) hb); have n3_ := Aside0.mk (below_step (by repeat (first | (with_reducible first | exact HB.out | apply below_alloc | apply pw_below_drewN | apply below_drew1 | refine below_set ?_ GE291.out) | exact HB.out)) hb); clear HO_7; clear BK291; clear HB; have HO_7 := n0_; have HO303 := n1_; have BK291 := n2_; have HB := n3_; clear n0_ n1_ n2_ n3_; (try clear hb); (try clear hb2); (try clear hk); (try clear hi); (try clear ho0); obtain ⟨Ao29, co29, eo29⟩ := Kd.R_slice HO303.out; subst eo29))
          go_loopg [10, 62] k2 (fun kq v10 v62 w' => ∃ (x10_3 : Int) (x62_3 : Int), v10 = .int .i64 x10_3 ∧ v62 = .int .i64 x62_3 ∧ Aside0 (almshouselaw37_StripeEven.l1 kq l1 a2 t294 x10_3 t301 (t301.length : Int) x62_3 a0_0 a0_1 a0_2 a0_3 = some r) ∧ Aside0 (kq ≤ k2) ∧ Aside0 (Kd.R (Kd.int .i64) 3 w' w.heap.size (fun k_ => some k_ ≠ ((.slice Ao29 t301.length co29) : Value).ownBlock) (.slice Ao27 t294.length co27) t294) ∧ Aside0 (Kd.R (Kd.int .i64) 3 w' w.heap.size (fun k_ => some k_ ≠ ((.slice Ao27 t294.length co27) : Value).ownBlock) (.slice Ao29 t301.length co29) t301) ∧ Aside0 (w'.heap[gb291]? = some (.cells #[.int .i64 a0_0, .int .i64 a0_1, .int .i64 a0_2, .int .i64 a0_3] 23 (0, 0))) ∧ Aside0 (Below w.heap.size w w'))
          case atStart => exact ⟨(0), (0), (by first | rfl | (simp; done) | (simp [*]; done)), (by first | rfl | (simp; done) | (simp [*]; done)), H', ⟨Nat.le_refl _⟩, ⟨by (with_reducible repeat (first | apply Kd.R_alloc | apply Kd.R_drewN | apply Kd.R_drew)); exact Kd.R_mono HO_7.out (fun _ hk => hk.2)⟩, ⟨by (with_reducible repeat (first | apply Kd.R_alloc | apply Kd.R_drewN | apply Kd.R_drew)); exact Kd.R_mono HO303.out (fun _ hk => hk.2)⟩, ⟨by (with_reducible repeat (first | refine blk_drewN ?_ _ | refine blk_drew ?_ | refine blk_alloc ?_ _)); exact BK291.out⟩, ⟨by repeat (first | (with_reducible first | exact HB.out | apply below_alloc | apply pw_below_drewN | apply below_drew1 | refine below_set ?_ GE291.out) | exact HB.out)⟩⟩
          case round =>
           clear H'
           try clear c1
           try clear c2
           try clear p2
           try clear c4
           try clear c5
           try clear c6
           try clear p6
           try clear c9
           try clear c9b0
           try clear c9b1
           try clear c12
           try clear c13
           try clear c15
           try clear c18
           try clear c18b0
           try clear c23
           try clear c23b0
           try clear c23b1
           try clear c23b2
           try clear c24
           try clear hcz11_0
           try clear hcz11_1
           try clear hcz11_2
           try clear hcz11_3
           try clear hcz15_0
           try clear hcz15_1
           try clear hcz15_2
           try clear hcz15_3
           try clear hcz17_0
           try clear hcz17_1
           try clear hcz17_2
           try clear hcz17_3
           try clear hcz20_0
           try clear hcz20_1
           try clear hcz20_2
           try clear hcz20_3
           try clear hcz26_0
           try clear hcz26_1
           try clear hcz26_2
           try clear hcz26_3
           try clear hfz11_0
           try clear hfz11_1
           try clear hfz11_2
           try clear hfz11_3
           try clear hfz15_0
           try clear hfz15_1
           try clear hfz15_2
           try clear hfz15_3
           try clear hfz17_0
           try clear hfz17_1
           try clear hfz17_2
           try clear hfz17_3
           try clear hfz20_0
           try clear hfz20_1
           try clear hfz20_2
           try clear hfz20_3
           try clear hfz26_0
           try clear hfz26_1
           try clear hfz26_2
           try clear hfz26_3
           try clear p2
           try clear p6
           obtain ⟨x10_3, x62_3, rfl, rfl, HA, HK3, HO_7, HO_60, BK291, HB⟩ := hrel
           cases gk with
           | zero => exact absurd HA.out (by simp [almshouselaw37_StripeEven.l1])
           | succ k3 =>
            have H := HA.out
            clear HA
            simp only [almshouselaw37_StripeEven.l1] at H
            by_cases c30 : x62_3 < (t301.length : Int)
            ·rw [if_pos c30] at H
             have c30b0 : decide (x62_3 < (t301.length : Int)) = true := decide_eq_true c30
             clear c30
             by_cases c31 : 0 ≤ x62_3
             ·rw [if_pos c31] at H
              have c31b0 : decide (0 ≤ x62_3) = true := decide_eq_true c31
              clear c31
              by_cases c32 : x62_3 < (t301.length : Int)
              ·rw [if_pos c32] at H
               have c32b0 : decide (x62_3 < (t301.length : Int)) = true := decide_eq_true c32
               clear c32
               obtain ⟨ji33, hji33⟩ : ∃ j_ : Int, (mx x10_3 (rd t301 x62_3)) = j_ := ⟨_, rfl⟩
               replace H : (almshouselaw37_StripeEven.l1 k3 l1 a2 t294 ji33 t301 (t301.length : Int) (wrap64 (x62_3 + 1)) a0_0 a0_1 a0_2 a0_3) = some r := by first | (rw [hji33] at H; exact H) | (simp only [hji33] at H ⊢; exact H)
               have hji33_ : (if x10_3 < (rd t301 x62_3) then (rd t301 x62_3) else x10_3) = ji33 := hji33
               have H' := Aside0.mk H
               clear H
               have p304 : 0 ≤ (x62_3 : Int) := of_decide_eq_true (by first | (with_reducible assumption) | assumption)
               have q304 : x62_3 < (t301.length : Int) := of_decide_eq_true (by first | (with_reducible assumption) | assumption)
               obtain ⟨ad304, e304, hx304_0⟩ := Kd.at_int (Kd.R_reads' HO_60.out).2.2 x62_3 p304 q304
               cases e304
               replace p304 := eq_true p304
               replace q304 := eq_true q304
               go_wp2
               go_roundg k3
               case measure => have := HJ5.out; have := HK2.out; have := HK3.out; omega
               case rel => exact ⟨(ji33), (wrap64 (x62_3 + 1)), (by first | rfl | (simp; done) | (simp only [← hji33] <;> (first | rfl | simp)) | (simp [*]; done)), (by first | rfl | (simp; done) | (simp [*]; done)), H', ⟨by have := HJ5.out; have := HK2.out; have := HK3.out; omega⟩, ⟨by (with_reducible repeat (first | apply Kd.R_alloc | apply Kd.R_drewN | apply Kd.R_drew)); exact HO_7.out⟩, ⟨by (with_reducible repeat (first | apply Kd.R_alloc | apply Kd.R_drewN | apply Kd.R_drew)); exact HO_60.out⟩, ⟨by (with_reducible repeat (first | refine blk_drewN ?_ _ | refine blk_drew ?_ | refine blk_alloc ?_ _)); exact BK291.out⟩, ⟨by repeat (first | (with_reducible first | exact HB.out | apply below_alloc | apply pw_below_drewN | apply below_drew1 | refine below_set ?_ GE291.out) | exact HB.out)⟩⟩
              ·rw [if_neg c32] at H
               exact absurd H (by simp)
             ·rw [if_neg c31] at H
              exact absurd H (by simp)
            ·rw [if_neg c30] at H
             have c30b0 : decide (x62_3 < (t301.length : Int)) = false := decide_eq_false c30
             clear c30
             have H' := Aside0.mk H
             clear H
             have hcz34_0 : wr.cell? ⟨gb291, 0, none⟩ = some (.int .i64 a0_0) := (blk_cell BK291.out 0).trans rfl
             have hcz34_1 : wr.cell? ⟨gb291, 1, none⟩ = some (.int .i64 a0_1) := (blk_cell BK291.out 1).trans rfl
             have hcz34_2 : wr.cell? ⟨gb291, 2, none⟩ = some (.int .i64 a0_2) := (blk_cell BK291.out 2).trans rfl
             have hcz34_3 : wr.cell? ⟨gb291, 3, none⟩ = some (.int .i64 a0_3) := (blk_cell BK291.out 3).trans rfl
             have hfz34_0 := blk_frozen BK291.out 0
             have hfz34_1 := blk_frozen BK291.out 1
             have hfz34_2 := blk_frozen BK291.out 2
             have hfz34_3 := blk_frozen BK291.out 3
             go_wp2
             go_loopg [14, 72] k3 (fun kq v14 v72 w' => ∃ (x14_4 : Int) (x72_4 : Int), v14 = .int .i64 x14_4 ∧ v72 = .int .i64 x72_4 ∧ Aside0 (almshouselaw37_StripeEven.l2 kq l1 a2 t294 x10_3 x14_4 a0_0 x72_4 a0_0 a0_1 a0_2 a0_3 = some r) ∧ Aside0 (kq ≤ k3) ∧ Aside0 (Kd.R (Kd.int .i64) 3 w' w.heap.size (fun _ => True) (.slice Ao27 t294.length co27) t294) ∧ Aside0 (w'.heap[gb291]? = some (.cells #[.int .i64 a0_0, .int .i64 a0_1, .int .i64 a0_2, .int .i64 a0_3] 23 (0, 0))) ∧ Aside0 (Below w.heap.size w w'))
             case atStart => exact ⟨(0), (0), (by first | rfl | (simp; done) | (simp [*]; done)), (by first | rfl | (simp; done) | (simp [*]; done)), H', ⟨Nat.le_refl _⟩, ⟨by (with_reducible repeat (first | apply Kd.R_alloc | apply Kd.R_drewN | apply Kd.R_drew)); exact Kd.R_mono HO_7.out (fun _ hk => trivial)⟩, ⟨by (with_reducible repeat (first | refine blk_drewN ?_ _ | refine blk_drew ?_ | refine blk_alloc ?_ _)); exact BK291.out⟩, ⟨by repeat (first | (with_reducible first | exact HB.out | apply below_alloc | apply pw_below_drewN | apply below_drew1 | refine below_set ?_ GE291.out) | exact HB.out)⟩⟩
             case round =>
              clear H'
              try clear c1
              try clear c2
              try clear p2
              try clear c3
              try clear p3
              try clear q3
              try clear hx3
              try clear c4
              try clear c5
              try clear c6
              try clear p6
              try clear c9
              try clear c9b0
              try clear c9b1
              try clear c12
              try clear c13
              try clear c15
              try clear c18
              try clear c18b0
              try clear c23
              try clear c23b0
              try clear c23b1
              try clear c23b2
              try clear c24
              try clear c30
              try clear c30b0
              try clear p30
              try clear q30
              try clear hx30
              try clear c31
              try clear c31b0
              try clear c32
              try clear c32b0
              try clear hcz11_0
              try clear hcz11_1
              try clear hcz11_2
              try clear hcz11_3
              try clear hcz15_0
              try clear hcz15_1
              try clear hcz15_2
              try clear hcz15_3
              try clear hcz17_0
              try clear hcz17_1
              try clear hcz17_2
              try clear hcz17_3
              try clear hcz20_0
              try clear hcz20_1
              try clear hcz20_2
              try clear hcz20_3
              try clear hcz26_0
              try clear hcz26_1
              try clear hcz26_2
              try clear hcz26_3
              try clear hcz34_0
              try clear hcz34_1
              try clear hcz34_2
              try clear hcz34_3
              try clear hfz11_0
              try clear hfz11_1
              try clear hfz11_2
              try clear hfz11_3
              try clear hfz15_0
              try clear hfz15_1
              try clear hfz15_2
              try clear hfz15_3
              try clear hfz17_0
              try clear hfz17_1
              try clear hfz17_2
              try clear hfz17_3
              try clear hfz20_0
              try clear hfz20_1
              try clear hfz20_2
              try clear hfz20_3
              try clear hfz26_0
              try clear hfz26_1
              try clear hfz26_2
              try clear hfz26_3
              try clear hfz34_0
              try clear hfz34_1
              try clear hfz34_2
              try clear hfz34_3
              try clear hx304_0
              try clear p2
              try clear p304
              try clear p6
              try clear q304
              obtain ⟨x14_4, x72_4, rfl, rfl, HA, HK4, HO_7, BK291, HB⟩ := hrel
              cases gk with
              | zero => exact absurd HA.out (by simp [almshouselaw37_StripeEven.l2])
              | succ k4 =>
               have H := HA.out
               clear HA
               simp only [almshouselaw37_StripeEven.l2] at H
               by_cases c35 : x72_4 < a0_0
               ·rw [if_pos c35] at H
                have c35b0 : decide (x72_4 < a0_0) = true := decide_eq_true c35
                clear c35
                replace H := Option.bind_eq_some_iff.mp H
                obtain ⟨t305, A360, H⟩ := H
                replace H : (almshouselaw37_StripeEven.l2 k4 l1 a2 t294 x10_3 (wrap64 (x14_4 + (mn (t305.length : Int) (wrap64 (x10_3 - 1))))) a0_0 (wrap64 (x72_4 + 1)) a0_0 a0_1 a0_2 a0_3) = some r := H
                have A36 := Aside0.mk A360
                clear A360
                obtain ⟨ji37, hji37⟩ : ∃ j_ : Int, (mn (t305.length : Int) (wrap64 (x10_3 - 1))) = j_ := ⟨_, rfl⟩
                replace H : (almshouselaw37_StripeEven.l2 k4 l1 a2 t294 x10_3 (wrap64 (x14_4 + (ji37))) a0_0 (wrap64 (x72_4 + 1)) a0_0 a0_1 a0_2 a0_3) = some r := by first | (rw [hji37] at H; exact H) | (simp only [hji37] at H ⊢; exact H)
                (try rw [hji37] at A36)
                have hji37_ : (if (wrap64 (x10_3 - 1)) < (t305.length : Int) then (wrap64 (x10_3 - 1)) else (t305.length : Int)) = ji37 := hji37
                have H' := Aside0.mk H
                clear H
                have hcz38_0 : wr.cell? ⟨gb291, 0, none⟩ = some (.int .i64 a0_0) := (blk_cell BK291.out 0).trans rfl
                have hcz38_1 : wr.cell? ⟨gb291, 1, none⟩ = some (.int .i64 a0_1) := (blk_cell BK291.out 1).trans rfl
                have hcz38_2 : wr.cell? ⟨gb291, 2, none⟩ = some (.int .i64 a0_2) := (blk_cell BK291.out 2).trans rfl
                have hcz38_3 : wr.cell? ⟨gb291, 3, none⟩ = some (.int .i64 a0_3) := (blk_cell BK291.out 3).trans rfl
                have hfz38_0 := blk_frozen BK291.out 0
                have hfz38_1 := blk_frozen BK291.out 1
                have hfz38_2 := blk_frozen BK291.out 2
                have hfz38_3 := blk_frozen BK291.out 3
                go_wp2_with (first | ((with_reducible refine gate_callee (f := 15) rfl ?_); refine goesL_ (some 79) rfl rfl Try.func15 (by kernel_rfl) rfl #[.agg #[.int .i64 a0_0, .int .i64 a0_1, .int .i64 a0_2, .int .i64 a0_3], .slice A1 l1.length c1, .int .i64 x72_4] rfl (by (try simp only [List.map_toArray, List.map_cons, List.map_nil]); first | done | rfl | (simp only [List.length_drop, List.length_take]; rfl)) ?_; (with_reducible refine (almshouseref37_Lane.calls k4 a0_0 a0_1 a0_2 a0_3 _ _ l1 x72_4 t305 _ ?side1 ?side2 A36.out).mono ?_); (case side1 => repeat (first | exact (Kd.C_below HR1.out HB.out) | (with_reducible refine Kd.C_alloc ?_ _) | (with_reducible refine Kd.C_drewN ?_ _) | (with_reducible refine Kd.C_drew ?_))); (case side2 => exact HC1.out); rintro e w39 ⟨v306, rfl, ho0, hb⟩; refine ⟨_, rfl, ?_⟩; have n0_ := Aside0.mk (Kd.R_elder' (by (with_reducible repeat (first | apply Kd.R_alloc | apply Kd.R_drewN | apply Kd.R_drew)); exact HO_7.out) (Kd.R_base ho0) hb); have n1_ := Aside0.mk (Kd.R_lower (Kd.R_new' ho0 (Kd.R_lt (by (with_reducible repeat (first | apply Kd.R_alloc | apply Kd.R_drewN | apply Kd.R_drew)); exact HO_7.out))) (below_size (by repeat (first | (with_reducible first | exact HB.out | apply below_alloc | apply pw_below_drewN | apply below_drew1 | refine below_set ?_ GE291.out) | exact HB.out)))); have n2_ := Aside0.mk (blk_below (g := gb291) (o := .cells #[.int .i64 a0_0, .int .i64 a0_1, .int .i64 a0_2, .int .i64 a0_3] 23 (0, 0)) (by (with_reducible repeat (first | refine blk_drewN ?_ _ | refine blk_drew ?_ | refine blk_alloc ?_ _)); exact BK291.out) hb); have n3_ := Aside0.mk (below_step (by repeat (first | (with_reducible first | exact HB.out | apply below_alloc | apply pw_below_drewN | apply below_drew1 | refine below_set ?_ GE291.out) | exact HB.out)) hb); clear HO_7; clear BK291; clear HB; have HO_7 := n0_; have HO307 := n1_; have BK291 := n2_; have HB := n3_; clear n0_ n1_ n2_ n3_; (try clear hb); (try clear hb2); (try clear hk); (try clear hi); (try clear ho0); obtain ⟨Ao40, co40, eo40⟩ := Kd.R_slice HO307.out; subst eo40))
                go_roundg k4
                case measure => have := HJ5.out; have := HK2.out; have := HK3.out; have := HK4.out; omega
                case rel => exact ⟨(wrap64 (x14_4 + (ji37))), (wrap64 (x72_4 + 1)), (by first | rfl | (simp; done) | (simp only [← hji37] <;> (first | rfl | simp)) | (simp [*]; done)), (by first | rfl | (simp; done) | (simp [*]; done)), H', ⟨by have := HJ5.out; have := HK2.out; have := HK3.out; have := HK4.out; omega⟩, ⟨by (with_reducible repeat (first | apply Kd.R_alloc | apply Kd.R_drewN | apply Kd.R_drew)); exact Kd.R_mono HO_7.out (fun _ hk => trivial)⟩, ⟨by (with_reducible repeat (first | refine blk_drewN ?_ _ | refine blk_drew ?_ | refine blk_alloc ?_ _)); exact BK291.out⟩, ⟨by repeat (first | (with_reducible first | exact HB.out | apply below_alloc | apply pw_below_drewN | apply below_drew1 | refine below_set ?_ GE291.out) | exact HB.out)⟩⟩
               ·rw [if_neg c35] at H
                have c35b0 : decide (x72_4 < a0_0) = false := decide_eq_false c35
                clear c35
                by_cases c41 : (t294.length : Int) = (wrap64 (a2))
                ·rw [if_pos c41] at H
                 have c41b0 : ((t294.length : Int) == (wrap64 (a2))) = true := beq_iff_eq.mpr c41
                 have c41b1 : ((t294.length : Int) != (wrap64 (a2))) = false := bne_eq_false_iff_eq.mpr c41
                 clear c41
                 by_cases c42 : x10_3 = 0
                 ·rw [if_pos c42] at H
                  have c42b0 : (x10_3 == 0) = true := beq_iff_eq.mpr c42
                  have c42b1 : (x10_3 != 0) = false := bne_eq_false_iff_eq.mpr c42
                  clear c42
                  obtain rfl := Option.some.inj H
                  go_wp2
                  go_ret
                  exact ⟨by first | rfl | (simp [errW_none, errW_some] <;> rfl) | (simp [*, errW_none, errW_some] <;> rfl), by repeat (first | (with_reducible first | exact HB.out | apply below_alloc | apply pw_below_drewN | apply below_drew1 | refine below_set ?_ GE291.out) | exact HB.out)⟩
                 ·rw [if_neg c42] at H
                  have c42b0 : (x10_3 == 0) = false := beq_eq_false_iff_ne.mpr c42
                  have c42b1 : (x10_3 != 0) = true := bne_iff_ne.mpr c42
                  obtain rfl := Option.some.inj H
                  go_wp2
                  go_ret
                  exact ⟨by first | rfl | (simp [errW_none, errW_some] <;> rfl) | (simp [*, errW_none, errW_some] <;> rfl), by repeat (first | (with_reducible first | exact HB.out | apply below_alloc | apply pw_below_drewN | apply below_drew1 | refine below_set ?_ GE291.out) | exact HB.out)⟩
                ·rw [if_neg c41] at H
                 have c41b0 : ((t294.length : Int) == (wrap64 (a2))) = false := beq_eq_false_iff_ne.mpr c41
                 have c41b1 : ((t294.length : Int) != (wrap64 (a2))) = true := bne_iff_ne.mpr c41
                 obtain rfl := Option.some.inj H
                 go_wp2
                 go_ret
                 exact ⟨by first | rfl | (simp [errW_none, errW_some] <;> rfl) | (simp [*, errW_none, errW_some] <;> rfl), by repeat (first | (with_reducible first | exact HB.out | apply below_alloc | apply pw_below_drewN | apply below_drew1 | refine below_set ?_ GE291.out) | exact HB.out)⟩
         ·replace c24 := Bool.eq_false_iff.mpr c24
          subst c24
          have H1 : (some ((t294.length : Int) == 0)) = some r := by rw [if_neg (show ¬ (false = true) by decide)] at H; exact H
          clear H
          have H := H1
          clear H1
          obtain rfl := Option.some.inj H
          obtain ⟨Ao43, co43, eo43⟩ := Kd.R_slice HO_7.out
          subst eo43
          go_wp2
          go_ret
          exact ⟨by first | rfl | (simp [errW_none, errW_some] <;> rfl) | (simp [*, errW_none, errW_some] <;> rfl), by repeat (first | (with_reducible first | exact HB.out | apply below_alloc | apply pw_below_drewN | apply below_drew1 | refine below_set ?_ GE291.out) | exact HB.out)⟩
 ·replace c5 := Bool.eq_false_iff.mpr c5
  subst c5
  have H1 : (some false) = some r := by rw [if_neg (show ¬ (false = true) by decide)] at H; exact H
  clear H
  have H := H1
  clear H1
  obtain rfl := Option.some.inj H
  go_enter Try.func4, Try.ntmps4
  go_wp2_with (first | ((with_reducible refine gate_dst (N := 3) rfl ?_); refine box_event ?hg (N := 3) ?hd (cs := #[.int .i64 a0_0, .int .i64 a0_1, .int .i64 a0_2, .int .i64 a0_3]) (t := 23) ?hr ?_; (case hd => rfl); (case hg => rfl); (case hr => first | (go_simp; done) | (go_simp; rfl)); intro gb291 hg w44 hbox hb; have n0_ := Aside0.mk (below_step (by repeat (first | (with_reducible first | exact HB.out | apply below_alloc | apply pw_below_drewN | apply below_drew1) | exact HB.out)) hb); have n1_ := Aside0.mk (hbox); have n2_ := Aside0.mk ((by rw [hg]; exact (below_size (by repeat (first | (with_reducible first | exact HB.out | apply below_alloc | apply pw_below_drewN | apply below_drew1) | exact HB.out))) : w.heap.size ≤ gb291)); have n3_ := Aside0.mk ((by rw [hg]; exact (below_size (by repeat (first | (with_reducible first | exact HB.out | apply below_alloc | apply pw_below_drewN | apply below_drew1) | exact HB.out))) : w.heap.size ≤ gb291)); clear HB; have HB := n0_; have BK291 := n1_; have GW291 := n2_; have GE291 := n3_; clear n0_ n1_ n2_ n3_; clear hb hbox hg) | ((with_reducible refine gate_callee (f := 5) rfl ?_); refine goesL_ (some 16) rfl rfl Try.func5 (by kernel_rfl) rfl #[] rfl (by (try simp only [List.map_toArray, List.map_cons, List.map_nil]); first | done | rfl | (simp only [List.length_drop, List.length_take]; rfl)) ?_; (with_reducible refine (almshouselaw37_fixed.calls k  false _ A4.out).mono ?_); rintro e w45 ⟨rfl, hb⟩; refine ⟨_, rfl, ?_⟩; have n0_ := Aside0.mk (blk_below (g := gb291) (o := .cells #[.int .i64 a0_0, .int .i64 a0_1, .int .i64 a0_2, .int .i64 a0_3] 23 (0, 0)) (by (with_reducible repeat (first | refine blk_drewN ?_ _ | refine blk_drew ?_ | refine blk_alloc ?_ _)); exact BK291.out) hb); have n1_ := Aside0.mk (below_step (by repeat (first | (with_reducible first | exact HB.out | apply below_alloc | apply pw_below_drewN | apply below_drew1 | refine below_set ?_ GE291.out) | exact HB.out)) hb); clear BK291; clear HB; have BK291 := n0_; have HB := n1_; clear n0_ n1_; (try clear hb); (try clear hb2); (try clear hk); (try clear hi)))
  go_ret
  exact ⟨by first | rfl | (simp [errW_none, errW_some] <;> rfl) | (simp [*, errW_none, errW_some] <;> rfl), by repeat (first | (with_reducible first | exact HB.out | apply below_alloc | apply pw_below_drewN | apply below_drew1 | refine below_set ?_ GE291.out) | exact HB.out)⟩
end Go.Proofs.Yteedjokkfiglhaa.P
