-- Cut by a program of this session (wip/pr/pack.py) to what one claim needs.
import Derived.Test.YtpcpllabegfdjaaBPx0
import Derived.Test.YtpcpllabegfdjaaBPx5
import Derived.Test.YtpcpllabegfdjaaBPx9
namespace Go.Proofs.Ytpcpllabegfdjaa.P
open Go.RowKit Go.Proofs.YtpcpllabegfdjaaW.PrintWords Go.Proofs.YtpcpllabegfdjaaW.PrintLast Go.Proofs.YtpcpllabegfdjaaW.PrintMore
attribute [local go_sem] max2_int min2_int max_two min_two max_three min_three max_four min_four
set_option linter.unusedVariables false
set_option linter.unusedSimpArgs false
mutual
def quota_Fullest.l0 : Nat → List (S34) → Int → Int → Int → Int → Int → Option (List Int)
 | 0, _, _, _, _, _, _ => none
 | k + 1, x0, x1, x2, x8, x114000, x114001 => if 0 ≤ (IntKind.u64.wrap ((x0.length : Int))) then (if (shr .u64 x8 (IntKind.u64.wrap ((x0.length : Int)))) = 0 then (quota_Fullest.l1 k x0 x1 x2 x8 x0 (x0.length : Int) 0 x114000 x114001 x8 0) else (quota_Fullest.l2 k ([] : List Int) (x0.length : Int) 0 x114000 x114001)) else (none)
def quota_Fullest.l1 : Nat → List (S34) → Int → Int → Int → List (S34) → Int → Int → Int → Int → Int → Int → Option (List Int)
 | 0, _, _, _, _, _, _, _, _, _, _, _ => none
 | k + 1, x0, x1, x2, x8, x29, x30, x31, x114000, x114001, x115000, x115001 => if x31 < x30 then (if 0 ≤ x31 then (if x31 < (x29.length : Int) then (if 0 ≤ (IntKind.u64.wrap (x31)) then (if (Go.bits .and .u64 (shr .u64 x8 (IntKind.u64.wrap (x31))) 1) = 0 then (quota_Fullest.l1 k x0 x1 x2 x8 x29 x30 (wrap64 (x31 + 1)) x114000 x114001 x115000 x115001) else ((quota_Cost.f ((rd_T34 x29 x31).f0) ((rd_T34 x29 x31).f1) x2).bind fun t118 => (if t118 = 0 then (if 65 ≤ (mn x1 64) then ((quota_choice_better.f x115000 65 x114000 x114001).bind fun t119 => (if t119 = true then (quota_Fullest.l0 k x0 x1 x2 (IntKind.u64.wrap (x8 + 1)) x115000 65) else (quota_Fullest.l0 k x0 x1 x2 (IntKind.u64.wrap (x8 + 1)) x114000 x114001))) else (quota_Fullest.l0 k x0 x1 x2 (IntKind.u64.wrap (x8 + 1)) x114000 x114001)) else (quota_Fullest.l1 k x0 x1 x2 x8 x29 x30 (wrap64 (x31 + 1)) x114000 x114001 x115000 (wrap64 (x115001 + t118)))))) else (none)) else (none)) else (none)) else (if x115001 ≤ (mn x1 64) then ((quota_choice_better.f x115000 x115001 x114000 x114001).bind fun t115 => (if t115 = true then (quota_Fullest.l0 k x0 x1 x2 (IntKind.u64.wrap (x8 + 1)) x115000 x115001) else (quota_Fullest.l0 k x0 x1 x2 (IntKind.u64.wrap (x8 + 1)) x114000 x114001))) else (quota_Fullest.l0 k x0 x1 x2 (IntKind.u64.wrap (x8 + 1)) x114000 x114001))
def quota_Fullest.l2 : Nat → List Int → Int → Int → Int → Int → Option (List Int)
 | 0, _, _, _, _, _ => none
 | k + 1, x13, x66, x67, x114000, x114001 => if x67 < x66 then (if 0 ≤ (IntKind.u64.wrap (x67)) then (if (Go.bits .and .u64 (shr .u64 x114000 (IntKind.u64.wrap (x67))) 1) = 1 then (if x13.length < 17592186044416 then (quota_Fullest.l2 k (x13 ++ [x67]) x66 (wrap64 (x67 + 1)) x114000 x114001) else (none)) else (quota_Fullest.l2 k x13 x66 (wrap64 (x67 + 1)) x114000 x114001)) else (none)) else (some x13)
end
def quota_Fullest.f (k : Nat) (l0 : List (S34)) (a1 : Int) (a2 : Int) : Option (List Int) := if (l0.length : Int) > 12 then (some ([] : List Int)) else (quota_Fullest.l0 k l0 a1 a2 1 0 0)
theorem quota_Fullest.mono_l : ∀ k, (∀ y0 y1 y2 y3 y4 y5, LeO (quota_Fullest.l0 k y0 y1 y2 y3 y4 y5) (quota_Fullest.l0 (k + 1) y0 y1 y2 y3 y4 y5)) ∧ (∀ y0 y1 y2 y3 y4 y5 y6 y7 y8 y9 y10, LeO (quota_Fullest.l1 k y0 y1 y2 y3 y4 y5 y6 y7 y8 y9 y10) (quota_Fullest.l1 (k + 1) y0 y1 y2 y3 y4 y5 y6 y7 y8 y9 y10)) ∧ (∀ y0 y1 y2 y3 y4, LeO (quota_Fullest.l2 k y0 y1 y2 y3 y4) (quota_Fullest.l2 (k + 1) y0 y1 y2 y3 y4))
 | 0 => ⟨fun _ _ _ _ _ _ r h => by simp [quota_Fullest.l0] at h, fun _ _ _ _ _ _ _ _ _ _ _ r h => by simp [quota_Fullest.l1] at h, fun _ _ _ _ _ r h => by simp [quota_Fullest.l2] at h⟩
 | k + 1 => by
  obtain ⟨ih0, ih1, ih2⟩ := quota_Fullest.mono_l k
  refine ⟨?_, ?_, ?_⟩
  ·intro y0 y1 y2 y3 y4 y5
   unfold quota_Fullest.l0
   repeat' first
   | (with_reducible exact ih0 _ _ _ _ _ _)
   | (with_reducible exact ih1 _ _ _ _ _ _ _ _ _ _ _)
   | (with_reducible exact ih2 _ _ _ _ _)
   | (with_reducible exact LeO.refl _)
   | (with_reducible exact LeO.none _)
   | (with_reducible refine LeO.ite ?_ ?_)
   | (with_reducible refine LeO.bind ?_ (fun _ => ?_))
   | exact ih0 _ _ _ _ _ _
   | exact ih1 _ _ _ _ _ _ _ _ _ _ _
   | exact ih2 _ _ _ _ _
   | exact LeO.none _
   | refine LeO.ite ?_ ?_
   | refine LeO.bind ?_ (fun _ => ?_)
  ·intro y0 y1 y2 y3 y4 y5 y6 y7 y8 y9 y10
   unfold quota_Fullest.l1
   repeat' first
   | (with_reducible exact ih0 _ _ _ _ _ _)
   | (with_reducible exact ih1 _ _ _ _ _ _ _ _ _ _ _)
   | (with_reducible exact ih2 _ _ _ _ _)
   | (with_reducible exact LeO.refl _)
   | (with_reducible exact LeO.none _)
   | (with_reducible refine LeO.ite ?_ ?_)
   | (with_reducible refine LeO.bind ?_ (fun _ => ?_))
   | exact ih0 _ _ _ _ _ _
   | exact ih1 _ _ _ _ _ _ _ _ _ _ _
   | exact ih2 _ _ _ _ _
   | exact LeO.none _
   | refine LeO.ite ?_ ?_
   | refine LeO.bind ?_ (fun _ => ?_)
  ·intro y0 y1 y2 y3 y4
   unfold quota_Fullest.l2
   repeat' first
   | (with_reducible exact ih0 _ _ _ _ _ _)
   | (with_reducible exact ih1 _ _ _ _ _ _ _ _ _ _ _)
   | (with_reducible exact ih2 _ _ _ _ _)
   | (with_reducible exact LeO.refl _)
   | (with_reducible exact LeO.none _)
   | (with_reducible refine LeO.ite ?_ ?_)
   | (with_reducible refine LeO.bind ?_ (fun _ => ?_))
   | exact ih0 _ _ _ _ _ _
   | exact ih1 _ _ _ _ _ _ _ _ _ _ _
   | exact ih2 _ _ _ _ _
   | exact LeO.none _
   | refine LeO.ite ?_ ?_
   | refine LeO.bind ?_ (fun _ => ?_)
theorem quota_Fullest.mono : ∀ a0 a1 a2 k, LeO (quota_Fullest.f k a0 a1 a2) (quota_Fullest.f (k + 1) a0 a1 a2) := by
 intro a0 a1 a2 k
 obtain ⟨ih0, ih1, ih2⟩ := quota_Fullest.mono_l k
 unfold quota_Fullest.f
 repeat' first
   | (with_reducible exact ih0 _ _ _ _ _ _)
   | (with_reducible exact ih1 _ _ _ _ _ _ _ _ _ _ _)
   | (with_reducible exact ih2 _ _ _ _ _)
   | (with_reducible exact LeO.refl _)
   | (with_reducible exact LeO.none _)
   | (with_reducible refine LeO.ite ?_ ?_)
   | (with_reducible refine LeO.bind ?_ (fun _ => ?_))
   | exact ih0 _ _ _ _ _ _
   | exact ih1 _ _ _ _ _ _ _ _ _ _ _
   | exact ih2 _ _ _ _ _
   | exact LeO.none _
   | refine LeO.ite ?_ ?_
   | refine LeO.bind ?_ (fun _ => ?_)
set_option maxHeartbeats 8000000 in
set_option maxRecDepth 100000 in
theorem quota_Fullest.calls (k : Nat) (A0 : Option Addr) (c0 : Nat) (l0 : List (S34)) (a1 : Int) (a2 : Int) (r : List Int) (w : World) (hr0 : Kd.C k34 w A0 l0.length l0) (hc0 : l0.length ≤ c0) (h : quota_Fullest.f k l0 a1 a2 = some r) :
  Calls Try.prog 7 #[.slice A0 l0.length c0, .int .i64 a1, .int .i64 a2] w fun e w' => ∃ v0_ : Value, e = .returned (v0_) ∧ Kd.R (Kd.int .i64) 3 w' w.heap.size (fun _ => True) v0_ r ∧ Below w.heap.size w w' := by
 have hu38 := Try.underlying38
 have hu34 := Try.underlying34
 have HR0 := Aside0.mk hr0
 have HC0 := Aside0.mk hc0
 clear hr0 hc0
 have HB := Aside0.mk (Below.refl w.heap.size w)
 have H : (if (l0.length : Int) > 12 then (some ([] : List Int)) else (quota_Fullest.l0 k l0 a1 a2 1 0 0)) = some r := h
 clear h
 by_cases c4 : (l0.length : Int) > 12
 ·rw [if_pos c4] at H
  have c4b0 : decide (12 < (l0.length : Int)) = true := decide_eq_true c4
  have c4b1 : decide (12 < l0.length) = true := decide_eq_true (by omega)
  clear c4
  obtain rfl := Option.some.inj H
  go_enter Try.func7, Try.ntmps7
  go_wp2
  go_ret
  exact ⟨_, by first | rfl | (simp [errW_none, errW_some] <;> rfl) | (simp [*, errW_none, errW_some] <;> rfl), by first | exact Kd.R_nil _ _ _ _ _ | exact Kd.N_nil _ _ _ _ _ | exact Kd.V_nil _ _ _ _ _ | exact Kd.Q_nil _ _ _ _ _ | exact Kd.S_nil _ _ _ _ _, by repeat (first | (with_reducible first | exact HB.out | apply below_alloc | apply pw_below_drewN | apply below_drew1) | exact HB.out)⟩
 ·rw [if_neg c4] at H
  have c4b0 : decide (12 < (l0.length : Int)) = false := decide_eq_false c4
  have c4b1 : decide (12 < l0.length) = false := decide_eq_false (by omega)
  clear c4
  have H' := Aside0.mk H
  clear H
  go_enter Try.func7, Try.ntmps7
  go_wp2_with (first | ((with_reducible refine gate_dst (N := 7) rfl ?_); refine box_event ?hg (N := 7) ?hd (cs := #[.int .u64 0, .int .i64 0]) (t := 38) ?hr ?_; (case hd => rfl); (case hg => rfl); (case hr => first | (go_simp; done) | (go_simp; rfl)); intro gb113 hg w5 hbox hb; have n0_ := Aside0.mk (below_step (by repeat (first | (with_reducible first | exact HB.out | apply below_alloc | apply pw_below_drewN | apply below_drew1) | exact HB.out)) hb); have n1_ := Aside0.mk (hbox); have n2_ := Aside0.mk ((by rw [hg]; exact (below_size (by repeat (first | (with_reducible first | exact HB.out | apply below_alloc | apply pw_below_drewN | apply below_drew1) | exact HB.out))) : w.heap.size ≤ gb113)); have n3_ := Aside0.mk ((by rw [hg]; exact (below_size (by repeat (first | (with_reducible first | exact HB.out | apply below_alloc | apply pw_below_drewN | apply below_drew1) | exact HB.out))) : w.heap.size ≤ gb113)); clear HB; have HB := n0_; have BK113 := n1_; have GW113 := n2_; have GE113 := n3_; clear n0_ n1_ n2_ n3_; clear hb hbox hg; have hcz6_0 : w5.cell? ⟨gb113, 0, none⟩ = some (.int .u64 0) := (blk_cell BK113.out 0).trans rfl; have hcz6_1 : w5.cell? ⟨gb113, 1, none⟩ = some (.int .i64 0) := (blk_cell BK113.out 1).trans rfl; have hfz6_0 := blk_frozen BK113.out 0; have hfz6_1 := blk_frozen BK113.out 1))
  go_loopg [8] k (fun kq v8 w' => ∃ (x8_1 : Int) (x114000_1 : Int) (x114001_1 : Int), v8 = .int .u64 x8_1 ∧ Aside0 (quota_Fullest.l0 kq l0 a1 a2 x8_1 x114000_1 x114001_1 = some r) ∧ Aside0 (kq ≤ k) ∧ Aside0 (w'.heap[gb113]? = some (.cells #[.int .u64 x114000_1, .int .i64 x114001_1] 38 (0, 0))) ∧ Aside0 (Below w.heap.size w w'))
  case atStart => exact ⟨(1), (0), (0), (by first | rfl | (simp; done) | (simp [*]; done)), H', ⟨Nat.le_refl _⟩, ⟨by (with_reducible repeat (first | refine blk_drewN ?_ _ | refine blk_drew ?_ | refine blk_alloc ?_ _)); refine blk_put (cs := #[.int .u64 0, .int .i64 0]) ?_ 1 _ rfl; (with_reducible repeat (first | refine blk_drewN ?_ _ | refine blk_drew ?_ | refine blk_alloc ?_ _)); refine blk_put (cs := #[.int .u64 0, .int .i64 0]) ?_ 0 _ rfl; (with_reducible repeat (first | refine blk_drewN ?_ _ | refine blk_drew ?_ | refine blk_alloc ?_ _)); exact BK113.out⟩, ⟨by repeat (first | (with_reducible first | exact HB.out | apply below_alloc | apply pw_below_drewN | apply below_drew1 | refine below_set ?_ GE113.out) | exact HB.out)⟩⟩
  case round =>
   clear H'
   try clear p2
   try clear c4
   try clear c4b0
   try clear c4b1
   try clear hcz6_0
   try clear hcz6_1
   try clear hfz6_0
   try clear hfz6_1
   obtain ⟨x8_1, x114000_1, x114001_1, rfl, HA, HK1, BK113, HB⟩ := hrel
   cases gk with
   | zero => exact absurd HA.out (by simp [quota_Fullest.l0])
   | succ k1 =>
    have H := HA.out
    clear HA
    simp only [quota_Fullest.l0] at H
    obtain ⟨ji7, hji7⟩ : ∃ j_ : Int, (IntKind.u64.wrap ((l0.length : Int))) = j_ := ⟨_, rfl⟩
    replace H : (if 0 ≤ (ji7) then (if (shr .u64 x8_1 (ji7)) = 0 then (quota_Fullest.l1 k1 l0 a1 a2 x8_1 l0 (l0.length : Int) 0 x114000_1 x114001_1 x8_1 0) else (quota_Fullest.l2 k1 ([] : List Int) (l0.length : Int) 0 x114000_1 x114001_1)) else (none)) = some r := by first | (rw [hji7] at H; exact H) | (simp only [hji7] at H ⊢; exact H)
    by_cases c8 : 0 ≤ (ji7)
    ·rw [if_pos c8] at H
     have c8b0 := eq_true c8
     have c8b1 : decide (0 ≤ (ji7)) = true := decide_eq_true c8
     clear c8
     obtain ⟨ji9, hji9⟩ : ∃ j_ : Int, (shr .u64 x8_1 (ji7)) = j_ := ⟨_, rfl⟩
     replace H : (if (ji9) = 0 then (quota_Fullest.l1 k1 l0 a1 a2 x8_1 l0 (l0.length : Int) 0 x114000_1 x114001_1 x8_1 0) else (quota_Fullest.l2 k1 ([] : List Int) (l0.length : Int) 0 x114000_1 x114001_1)) = some r := by first | (rw [hji9] at H; exact H) | (simp only [hji9] at H ⊢; exact H)
     have hji9_ : (x8_1 / 2 ^ min (ji7).toNat 64) = ji9 := hji9
     have hji9z : (ji7) ≤ 64 → (x8_1 / 2 ^ (ji7).toNat) = ji9 := shr_small hji9
     by_cases c10 : (ji9) = 0
     ·rw [if_pos c10] at H
      have c10b0 : ((ji9) == 0) = true := beq_iff_eq.mpr c10
      have c10b1 : ((ji9) != 0) = false := bne_eq_false_iff_eq.mpr c10
      clear c10
      have H' := Aside0.mk H
      clear H
      go_wp2_with (first | ((with_reducible refine gate_dst (N := 9) rfl ?_); refine box_event ?hg (N := 9) ?hd (cs := #[.int .u64 0, .int .i64 0]) (t := 38) ?hr ?_; (case hd => rfl); (case hg => rfl); (case hr => first | (go_simp; done) | (go_simp; rfl)); intro gb114 hg w11 hbox hb; have n0_ := Aside0.mk (blk_below (g := gb113) (o := .cells #[.int .u64 x114000_1, .int .i64 x114001_1] 38 (0, 0)) (by (with_reducible repeat (first | refine blk_drewN ?_ _ | refine blk_drew ?_ | refine blk_alloc ?_ _)); exact BK113.out) hb); have n1_ := Aside0.mk (below_step (by repeat (first | (with_reducible first | exact HB.out | apply below_alloc | apply pw_below_drewN | apply below_drew1 | refine below_set ?_ GE113.out) | exact HB.out)) hb); have n2_ := Aside0.mk (hbox); have n3_ := Aside0.mk ((by rw [hg]; exact (below_size (by repeat (first | (with_reducible first | exact HB.out | apply below_alloc | apply pw_below_drewN | apply below_drew1 | refine below_set ?_ GE113.out) | exact HB.out))) : w.heap.size ≤ gb114)); have n4_ := Aside0.mk ((by rw [hg]; exact (below_size (by repeat (first | (with_reducible first | exact HB.out | apply below_alloc | apply pw_below_drewN | apply below_drew1 | refine below_set ?_ GE113.out) | exact HB.out))) : w.heap.size ≤ gb114)); have n5_ := Aside0.mk ((by rw [hg]; exact Nat.ne_of_lt (blk_lt (g := gb113) (o := .cells #[.int .u64 x114000_1, .int .i64 x114001_1] 38 (0, 0)) (by (with_reducible repeat (first | refine blk_drewN ?_ _ | refine blk_drew ?_ | refine blk_alloc ?_ _)); exact BK113.out)) : gb113 ≠ gb114)); have n6_ := Aside0.mk ((by rw [hg]; exact Nat.ne_of_gt (blk_lt (g := gb113) (o := .cells #[.int .u64 x114000_1, .int .i64 x114001_1] 38 (0, 0)) (by (with_reducible repeat (first | refine blk_drewN ?_ _ | refine blk_drew ?_ | refine blk_alloc ?_ _)); exact BK113.out)) : gb114 ≠ gb113)); clear BK113; clear HB; have BK113 := n0_; have HB := n1_; have BK114 := n2_; have GW114 := n3_; have GE114 := n4_; have NB113_114 := n5_; have NB114_113 := n6_; clear n0_ n1_ n2_ n3_ n4_ n5_ n6_; clear hb hbox hg; have hnb12 := NB114_113.out; have hnc12 := NB113_114.out; have hcz13_0 : w11.cell? ⟨gb114, 0, none⟩ = some (.int .u64 0) := (blk_cell BK114.out 0).trans rfl; have hcz13_1 : w11.cell? ⟨gb114, 1, none⟩ = some (.int .i64 0) := (blk_cell BK114.out 1).trans rfl; have hfz13_0 := blk_frozen BK114.out 0; have hfz13_1 := blk_frozen BK114.out 1))
      go_loopg [31] k1 (fun kq v31 w' => ∃ (x31_2 : Int) (x115001_2 : Int), v31 = .int .i64 x31_2 ∧ Aside0 (quota_Fullest.l1 kq l0 a1 a2 x8_1 l0 (l0.length : Int) x31_2 x114000_1 x114001_1 x8_1 x115001_2 = some r) ∧ Aside0 (kq ≤ k1) ∧ Aside0 (w'.heap[gb113]? = some (.cells #[.int .u64 x114000_1, .int .i64 x114001_1] 38 (0, 0))) ∧ Aside0 (w'.heap[gb114]? = some (.cells #[.int .u64 x8_1, .int .i64 x115001_2] 38 (0, 0))) ∧ Aside0 (Below w.heap.size w w'))
      case atStart => exact ⟨(0), (0), (by first | rfl | (simp; done) | (simp [*]; done)), H', ⟨Nat.le_refl _⟩, ⟨by (with_reducible repeat (first | refine blk_drewN ?_ _ | refine blk_drew ?_ | refine blk_alloc ?_ _)); refine blk_far ?_ NB113_114.out _; (with_reducible repeat (first | refine blk_drewN ?_ _ | refine blk_drew ?_ | refine blk_alloc ?_ _)); refine blk_far ?_ NB113_114.out _; (with_reducible repeat (first | refine blk_drewN ?_ _ | refine blk_drew ?_ | refine blk_alloc ?_ _)); exact BK113.out⟩, ⟨by (with_reducible repeat (first | refine blk_drewN ?_ _ | refine blk_drew ?_ | refine blk_alloc ?_ _)); refine blk_put (cs := #[.int .u64 x8_1, .int .i64 0]) ?_ 1 _ rfl; (with_reducible repeat (first | refine blk_drewN ?_ _ | refine blk_drew ?_ | refine blk_alloc ?_ _)); refine blk_put (cs := #[.int .u64 0, .int .i64 0]) ?_ 0 _ rfl; (with_reducible repeat (first | refine blk_drewN ?_ _ | refine blk_drew ?_ | refine blk_alloc ?_ _)); exact BK114.out⟩, ⟨by repeat (first | (with_reducible first | exact HB.out | apply below_alloc | apply pw_below_drewN | apply below_drew1 | refine below_set ?_ GE113.out | refine below_set ?_ GE114.out) | exact HB.out)⟩⟩
      case round =>
       clear H'
       try clear c1
       try clear p2
       try clear c4
       try clear c4b0
       try clear c4b1
       try clear c7
       try clear c8
       try clear c8b0
       try clear c8b1
       try clear c10
       try clear c10b0
       try clear c10b1
       try clear c12
       try clear hcz13_0
       try clear hcz13_1
       try clear hcz6_0
       try clear hcz6_1
       try clear hfz13_0
       try clear hfz13_1
       try clear hfz6_0
       try clear hfz6_1
       try clear p2
       obtain ⟨x31_2, x115001_2, rfl, HA, HK2, BK113, BK114, HB⟩ := hrel
       cases gk with
       | zero => exact absurd HA.out (by simp [quota_Fullest.l1])
       | succ k2 =>
        have H := HA.out
        clear HA
        simp only [quota_Fullest.l1] at H
        by_cases c14 : x31_2 < (l0.length : Int)
        ·rw [if_pos c14] at H
         have c14b0 : decide (x31_2 < (l0.length : Int)) = true := decide_eq_true c14
         clear c14
         by_cases c15 : 0 ≤ x31_2
         ·rw [if_pos c15] at H
          have c15b0 : decide (0 ≤ x31_2) = true := decide_eq_true c15
          clear c15
          by_cases c16 : x31_2 < (l0.length : Int)
          ·rw [if_pos c16] at H
           have c16b0 : decide (x31_2 < (l0.length : Int)) = true := decide_eq_true c16
           clear c16
           obtain ⟨ji17, hji17⟩ : ∃ j_ : Int, (IntKind.u64.wrap (x31_2)) = j_ := ⟨_, rfl⟩
           replace H : (if 0 ≤ (ji17) then (if (Go.bits .and .u64 (shr .u64 x8_1 (ji17)) 1) = 0 then (quota_Fullest.l1 k2 l0 a1 a2 x8_1 l0 (l0.length : Int) (wrap64 (x31_2 + 1)) x114000_1 x114001_1 x8_1 x115001_2) else ((quota_Cost.f ((rd_T34 l0 x31_2).f0) ((rd_T34 l0 x31_2).f1) a2).bind fun t118 => (if t118 = 0 then (if 65 ≤ (mn a1 64) then ((quota_choice_better.f x8_1 65 x114000_1 x114001_1).bind fun t119 => (if t119 = true then (quota_Fullest.l0 k2 l0 a1 a2 (IntKind.u64.wrap (x8_1 + 1)) x8_1 65) else (quota_Fullest.l0 k2 l0 a1 a2 (IntKind.u64.wrap (x8_1 + 1)) x114000_1 x114001_1))) else (quota_Fullest.l0 k2 l0 a1 a2 (IntKind.u64.wrap (x8_1 + 1)) x114000_1 x114001_1)) else (quota_Fullest.l1 k2 l0 a1 a2 x8_1 l0 (l0.length : Int) (wrap64 (x31_2 + 1)) x114000_1 x114001_1 x8_1 (wrap64 (x115001_2 + t118)))))) else (none)) = some r := by first | (rw [hji17] at H; exact H) | (simp only [hji17] at H ⊢; exact H)
           by_cases c18 : 0 ≤ (ji17)
           ·rw [if_pos c18] at H
            have c18b0 := eq_true c18
            have c18b1 : decide (0 ≤ (ji17)) = true := decide_eq_true c18
            clear c18
            obtain ⟨ji19, hji19⟩ : ∃ j_ : Int, (shr .u64 x8_1 (ji17)) = j_ := ⟨_, rfl⟩
            replace H : (if (Go.bits .and .u64 (ji19) 1) = 0 then (quota_Fullest.l1 k2 l0 a1 a2 x8_1 l0 (l0.length : Int) (wrap64 (x31_2 + 1)) x114000_1 x114001_1 x8_1 x115001_2) else ((quota_Cost.f ((rd_T34 l0 x31_2).f0) ((rd_T34 l0 x31_2).f1) a2).bind fun t118 => (if t118 = 0 then (if 65 ≤ (mn a1 64) then ((quota_choice_better.f x8_1 65 x114000_1 x114001_1).bind fun t119 => (if t119 = true then (quota_Fullest.l0 k2 l0 a1 a2 (IntKind.u64.wrap (x8_1 + 1)) x8_1 65) else (quota_Fullest.l0 k2 l0 a1 a2 (IntKind.u64.wrap (x8_1 + 1)) x114000_1 x114001_1))) else (quota_Fullest.l0 k2 l0 a1 a2 (IntKind.u64.wrap (x8_1 + 1)) x114000_1 x114001_1)) else (quota_Fullest.l1 k2 l0 a1 a2 x8_1 l0 (l0.length : Int) (wrap64 (x31_2 + 1)) x114000_1 x114001_1 x8_1 (wrap64 (x115001_2 + t118)))))) = some r := by first | (rw [hji19] at H; exact H) | (simp only [hji19] at H ⊢; exact H)
            have hji19_ : (x8_1 / 2 ^ min (ji17).toNat 64) = ji19 := hji19
            have hji19z : (ji17) ≤ 64 → (x8_1 / 2 ^ (ji17).toNat) = ji19 := shr_small hji19
            by_cases c20 : (Go.bits .and .u64 (ji19) 1) = 0
            ·rw [if_pos c20] at H
             have c20b0 : ((Go.bits .and .u64 (ji19) 1) == 0) = true := beq_iff_eq.mpr c20
             have c20b1 : ((Go.bits .and .u64 (ji19) 1) != 0) = false := bne_eq_false_iff_eq.mpr c20
             clear c20
             have H' := Aside0.mk H
             clear H
             have p116 : 0 ≤ (x31_2 : Int) := of_decide_eq_true (by first | (with_reducible assumption) | assumption)
             have q116 : x31_2 < (l0.length : Int) := of_decide_eq_true (by first | (with_reducible assumption) | assumption)
             obtain ⟨ad116, e116, hx116_0, hx116_1⟩ := at_T34 HR0.out x31_2 p116 q116
             cases e116
             replace hx116_0 := (HB.out.cell (World.block_lt_of_cell? w _ hx116_0)).trans hx116_0
             replace hx116_1 := (HB.out.cell (World.block_lt_of_cell? w _ hx116_1)).trans hx116_1
             replace p116 := eq_true p116
             replace q116 := eq_true q116
             go_wp2_with (first | ((with_reducible refine gate_dst (N := 11) rfl ?_); refine box_event ?hg (N := 11) ?hd (cs := #[.int .i64 0, .int .i64 0]) (t := 34) ?hr ?_; (case hd => rfl); (case hg => rfl); (case hr => first | (go_simp; done) | (go_simp; rfl)); intro gb117 hg w21 hbox hb; have n0_ := Aside0.mk (blk_below (g := gb113) (o := .cells #[.int .u64 x114000_1, .int .i64 x114001_1] 38 (0, 0)) (by (with_reducible repeat (first | refine blk_drewN ?_ _ | refine blk_drew ?_ | refine blk_alloc ?_ _)); exact BK113.out) hb); have n1_ := Aside0.mk (blk_below (g := gb114) (o := .cells #[.int .u64 x8_1, .int .i64 x115001_2] 38 (0, 0)) (by (with_reducible repeat (first | refine blk_drewN ?_ _ | refine blk_drew ?_ | refine blk_alloc ?_ _)); exact BK114.out) hb); have n2_ := Aside0.mk (below_step (by repeat (first | (with_reducible first | exact HB.out | apply below_alloc | apply pw_below_drewN | apply below_drew1 | refine below_set ?_ GE113.out | refine below_set ?_ GE114.out) | exact HB.out)) hb); have n3_ := Aside0.mk (hbox); have n4_ := Aside0.mk ((by rw [hg]; exact (below_size (by repeat (first | (with_reducible first | exact HB.out | apply below_alloc | apply pw_below_drewN | apply below_drew1 | refine below_set ?_ GE113.out | refine below_set ?_ GE114.out) | exact HB.out))) : w.heap.size ≤ gb117)); have n5_ := Aside0.mk ((by rw [hg]; exact (below_size (by repeat (first | (with_reducible first | exact HB.out | apply below_alloc | apply pw_below_drewN | apply below_drew1 | refine below_set ?_ GE113.out | refine below_set ?_ GE114.out) | exact HB.out))) : w.heap.size ≤ gb117)); have n6_ := Aside0.mk ((by rw [hg]; exact Nat.ne_of_lt (blk_lt (g := gb113) (o := .cells #[.int .u64 x114000_1, .int .i64 x114001_1] 38 (0, 0)) (by (with_reducible repeat (first | refine blk_drewN ?_ _ | refine blk_drew ?_ | refine blk_alloc ?_ _)); exact BK113.out)) : gb113 ≠ gb117)); have n7_ := Aside0.mk ((by rw [hg]; exact Nat.ne_of_gt (blk_lt (g := gb113) (o := .cells #[.int .u64 x114000_1, .int .i64 x114001_1] 38 (0, 0)) (by (with_reducible repeat (first | refine blk_drewN ?_ _ | refine blk_drew ?_ | refine blk_alloc ?_ _)); exact BK113.out)) : gb117 ≠ gb113)); have n8_ := Aside0.mk ((by rw [hg]; exact Nat.ne_of_lt (blk_lt (g := gb114) (o := .cells #[.int .u64 x8_1, .int .i64 x115001_2] 38 (0, 0)) (by (with_reducible repeat (first | refine blk_drewN ?_ _ | refine blk_drew ?_ | refine blk_alloc ?_ _)); exact BK114.out)) : gb114 ≠ gb117)); have n9_ := Aside0.mk ((by rw [hg]; exact Nat.ne_of_gt (blk_lt (g := gb114) (o := .cells #[.int .u64 x8_1, .int .i64 x115001_2] 38 (0, 0)) (by (with_reducible repeat (first | refine blk_drewN ?_ _ | refine blk_drew ?_ | refine blk_alloc ?_ _)); exact BK114.out)) : gb117 ≠ gb114)); clear BK113; clear BK114; clear HB; have BK113 := n0_; have BK114 := n1_; have HB := n2_; have BK117 := n3_; have GW117 := n4_; have GE117 := n5_; have NB113_117 := n6_; have NB117_113 := n7_; have NB114_117 := n8_; have NB117_114 := n9_; clear n0_ n1_ n2_ n3_ n4_ n5_ n6_ n7_ n8_ n9_; clear hb hbox hg; have hnb22 := NB117_113.out; have hnc22 := NB113_117.out; have hnb23 := NB117_114.out; have hnc23 := NB114_117.out; have hcz24_0 : w21.cell? ⟨gb117, 0, none⟩ = some (.int .i64 0) := (blk_cell BK117.out 0).trans rfl; have hcz24_1 : w21.cell? ⟨gb117, 1, none⟩ = some (.int .i64 0) := (blk_cell BK117.out 1).trans rfl; have hfz24_0 := blk_frozen BK117.out 0; have hfz24_1 := blk_frozen BK117.out 1))
             go_roundg k2
             case measure => have := HK1.out; have := HK2.out; omega
             case rel => exact ⟨(wrap64 (x31_2 + 1)), (x115001_2), (by first | rfl | (simp; done) | (simp [*]; done)), H', ⟨by have := HK1.out; have := HK2.out; omega⟩, ⟨by (with_reducible repeat (first | refine blk_drewN ?_ _ | refine blk_drew ?_ | refine blk_alloc ?_ _)); refine blk_far ?_ NB113_117.out _; (with_reducible repeat (first | refine blk_drewN ?_ _ | refine blk_drew ?_ | refine blk_alloc ?_ _)); refine blk_far ?_ NB113_117.out _; (with_reducible repeat (first | refine blk_drewN ?_ _ | refine blk_drew ?_ | refine blk_alloc ?_ _)); exact BK113.out⟩, ⟨by (with_reducible repeat (first | refine blk_drewN ?_ _ | refine blk_drew ?_ | refine blk_alloc ?_ _)); refine blk_far ?_ NB114_117.out _; (with_reducible repeat (first | refine blk_drewN ?_ _ | refine blk_drew ?_ | refine blk_alloc ?_ _)); refine blk_far ?_ NB114_117.out _; (with_reducible repeat (first | refine blk_drewN ?_ _ | refine blk_drew ?_ | refine blk_alloc ?_ _)); exact BK114.out⟩, ⟨by repeat (first | (with_reducible first | exact HB.out | apply below_alloc | apply pw_below_drewN | apply below_drew1 | refine below_set ?_ GE113.out | refine below_set ?_ GE114.out | refine below_set ?_ GE117.out) | exact HB.out)⟩⟩
            ·rw [if_neg c20] at H
             have c20b0 : ((Go.bits .and .u64 (ji19) 1) == 0) = false := beq_eq_false_iff_ne.mpr c20
             have c20b1 : ((Go.bits .and .u64 (ji19) 1) != 0) = true := bne_iff_ne.mpr c20
             replace H := Option.bind_eq_some_iff.mp H
             obtain ⟨t118, A250, H⟩ := H
             replace H : (if t118 = 0 then (if 65 ≤ (mn a1 64) then ((quota_choice_better.f x8_1 65 x114000_1 x114001_1).bind fun t119 => (if t119 = true then (quota_Fullest.l0 k2 l0 a1 a2 (IntKind.u64.wrap (x8_1 + 1)) x8_1 65) else (quota_Fullest.l0 k2 l0 a1 a2 (IntKind.u64.wrap (x8_1 + 1)) x114000_1 x114001_1))) else (quota_Fullest.l0 k2 l0 a1 a2 (IntKind.u64.wrap (x8_1 + 1)) x114000_1 x114001_1)) else (quota_Fullest.l1 k2 l0 a1 a2 x8_1 l0 (l0.length : Int) (wrap64 (x31_2 + 1)) x114000_1 x114001_1 x8_1 (wrap64 (x115001_2 + t118)))) = some r := H
             have A25 := Aside0.mk A250
             clear A250
             by_cases c26 : t118 = 0
             ·rw [if_pos c26] at H
              have c26b0 : (t118 == 0) = true := beq_iff_eq.mpr c26
              have c26b1 : (t118 != 0) = false := bne_eq_false_iff_eq.mpr c26
              clear c26
              obtain ⟨ji27, hji27⟩ : ∃ j_ : Int, (mn a1 64) = j_ := ⟨_, rfl⟩
              replace H : (if 65 ≤ (ji27) then ((quota_choice_better.f x8_1 65 x114000_1 x114001_1).bind fun t119 => (if t119 = true then (quota_Fullest.l0 k2 l0 a1 a2 (IntKind.u64.wrap (x8_1 + 1)) x8_1 65) else (quota_Fullest.l0 k2 l0 a1 a2 (IntKind.u64.wrap (x8_1 + 1)) x114000_1 x114001_1))) else (quota_Fullest.l0 k2 l0 a1 a2 (IntKind.u64.wrap (x8_1 + 1)) x114000_1 x114001_1)) = some r := by first | (rw [hji27] at H; exact H) | (simp only [hji27] at H ⊢; exact H)
              (try rw [hji27] at A25)
              have hji27_ : (if 64 < a1 then 64 else a1) = ji27 := hji27
              by_cases c28 : 65 ≤ (ji27)
              ·rw [if_pos c28] at H
               have c28b0 : decide (65 ≤ (ji27)) = true := decide_eq_true c28
               clear c28
               replace H := Option.bind_eq_some_iff.mp H
               obtain ⟨t119, A290, H⟩ := H
               replace H : (if t119 = true then (quota_Fullest.l0 k2 l0 a1 a2 (IntKind.u64.wrap (x8_1 + 1)) x8_1 65) else (quota_Fullest.l0 k2 l0 a1 a2 (IntKind.u64.wrap (x8_1 + 1)) x114000_1 x114001_1)) = some r := H
               have A29 := Aside0.mk A290
               clear A290
               by_cases c30 : t119 = true
               ·subst c30
                have H1 : (quota_Fullest.l0 k2 l0 a1 a2 (IntKind.u64.wrap (x8_1 + 1)) x8_1 65) = some r := by rw [if_pos rfl] at H; exact H
                clear H
                have H := H1
                clear H1
                have H' := Aside0.mk H
                clear H
                have p116 : 0 ≤ (x31_2 : Int) := of_decide_eq_true (by first | (with_reducible assumption) | assumption)
                have q116 : x31_2 < (l0.length : Int) := of_decide_eq_true (by first | (with_reducible assumption) | assumption)
                obtain ⟨ad116, e116, hx116_0, hx116_1⟩ := at_T34 HR0.out x31_2 p116 q116
                cases e116
                replace hx116_0 := (HB.out.cell (World.block_lt_of_cell? w _ hx116_0)).trans hx116_0
                replace hx116_1 := (HB.out.cell (World.block_lt_of_cell? w _ hx116_1)).trans hx116_1
                replace p116 := eq_true p116
                replace q116 := eq_true q116
                go_wp2_with (first | ((with_reducible refine gate_dst (N := 11) rfl ?_); refine box_event ?hg (N := 11) ?hd (cs := #[.int .i64 0, .int .i64 0]) (t := 34) ?hr ?_; (case hd => rfl); (case hg => rfl); (case hr => first | (go_simp; done) | (go_simp; rfl)); intro gb117 hg w31 hbox hb; have n0_ := Aside0.mk (blk_below (g := gb113) (o := .cells #[.int .u64 x114000_1, .int .i64 x114001_1] 38 (0, 0)) (by (with_reducible repeat (first | refine blk_drewN ?_ _ | refine blk_drew ?_ | refine blk_alloc ?_ _)); exact BK113.out) hb); have n1_ := Aside0.mk (blk_below (g := gb114) (o := .cells #[.int .u64 x8_1, .int .i64 x115001_2] 38 (0, 0)) (by (with_reducible repeat (first | refine blk_drewN ?_ _ | refine blk_drew ?_ | refine blk_alloc ?_ _)); exact BK114.out) hb); have n2_ := Aside0.mk (below_step (by repeat (first | (with_reducible first | exact HB.out | apply below_alloc | apply pw_below_drewN | apply below_drew1 | refine below_set ?_ GE113.out | refine below_set ?_ GE114.out) | exact HB.out)) hb); have n3_ := Aside0.mk (hbox); have n4_ := Aside0.mk ((by rw [hg]; exact (below_size (by repeat (first | (with_reducible first | exact HB.out | apply below_alloc | apply pw_below_drewN | apply below_drew1 | refine below_set ?_ GE113.out | refine below_set ?_ GE114.out) | exact HB.out))) : w.heap.size ≤ gb117)); have n5_ := Aside0.mk ((by rw [hg]; exact (below_size (by repeat (first | (with_reducible first | exact HB.out | apply below_alloc | apply pw_below_drewN | apply below_drew1 | refine below_set ?_ GE113.out | refine below_set ?_ GE114.out) | exact HB.out))) : w.heap.size ≤ gb117)); have n6_ := Aside0.mk ((by rw [hg]; exact Nat.ne_of_lt (blk_lt (g := gb113) (o := .cells #[.int .u64 x114000_1, .int .i64 x114001_1] 38 (0, 0)) (by (with_reducible repeat (first | refine blk_drewN ?_ _ | refine blk_drew ?_ | refine blk_alloc ?_ _)); exact BK113.out)) : gb113 ≠ gb117)); have n7_ := Aside0.mk ((by rw [hg]; exact Nat.ne_of_gt (blk_lt (g := gb113) (o := .cells #[.int .u64 x114000_1, .int .i64 x114001_1] 38 (0, 0)) (by (with_reducible repeat (first | refine blk_drewN ?_ _ | refine blk_drew ?_ | refine blk_alloc ?_ _)); exact BK113.out)) : gb117 ≠ gb113)); have n8_ := Aside0.mk ((by rw [hg]; exact Nat.ne_of_lt (blk_lt (g := gb114) (o := .cells #[.int .u64 x8_1, .int .i64 x115001_2] 38 (0, 0)) (by (with_reducible repeat (first | refine blk_drewN ?_ _ | refine blk_drew ?_ | refine blk_alloc ?_ _)); exact BK114.out)) : gb114 ≠ gb117)); have n9_ := Aside0.mk ((by rw [hg]; exact Nat.ne_of_gt (blk_lt (g := gb114) (o := .cells #[.int .u64 x8_1, .int .i64 x115001_2] 38 (0, 0)) (by (with_reducible repeat (first | refine blk_drewN ?_ _ | refine blk_drew ?_ | refine blk_alloc ?_ _)); exact BK114.out)) : gb117 ≠ gb114)); clear BK113; clear BK114; clear HB; have BK113 := n0_; have BK114 := n1_; have HB := n2_; have BK117 := n3_; have GW117 := n4_; have GE117 := n5_; have NB113_117 := n6_; have NB117_113 := n7_; have NB114_117 := n8_; have NB117_114 := n9_; clear n0_ n1_ n2_ n3_ n4_ n5_ n6_ n7_ n8_ n9_; clear hb hbox hg; have hnb32 := NB117_113.out; have hnc32 := NB113_117.out; have hnb33 := NB117_114.out; have hnc33 := NB114_117.out; have hcz34_0 : w31.cell? ⟨gb117, 0, none⟩ = some (.int .i64 0) := (blk_cell BK117.out 0).trans rfl; have hcz34_1 : w31.cell? ⟨gb117, 1, none⟩ = some (.int .i64 0) := (blk_cell BK117.out 1).trans rfl; have hfz34_0 := blk_frozen BK117.out 0; have hfz34_1 := blk_frozen BK117.out 1) | ((with_reducible refine gate_callee (f := 13) rfl ?_); refine goesL_ (some 44) rfl rfl Try.func13 (by kernel_rfl) rfl #[.agg #[.int .i64 ((rd_T34 l0 x31_2).f0), .int .i64 ((rd_T34 l0 x31_2).f1)], .int .i64 a2] rfl (by (try simp only [List.map_toArray, List.map_cons, List.map_nil]); first | done | rfl | (simp only [List.length_drop, List.length_take]; rfl)) ?_; (with_reducible refine (quota_Cost.calls ((rd_T34 l0 x31_2).f0) ((rd_T34 l0 x31_2).f1) a2 t118 _ A25.out).mono ?_); rintro e w35 ⟨rfl, hb⟩; refine ⟨_, rfl, ?_⟩; have n0_ := Aside0.mk (blk_below (g := gb113) (o := .cells #[.int .u64 x114000_1, .int .i64 x114001_1] 38 (0, 0)) (by (with_reducible repeat (first | refine blk_drewN ?_ _ | refine blk_drew ?_ | refine blk_alloc ?_ _)); refine blk_far ?_ NB113_117.out _; (with_reducible repeat (first | refine blk_drewN ?_ _ | refine blk_drew ?_ | refine blk_alloc ?_ _)); refine blk_far ?_ NB113_117.out _; (with_reducible repeat (first | refine blk_drewN ?_ _ | refine blk_drew ?_ | refine blk_alloc ?_ _)); exact BK113.out) hb); have n1_ := Aside0.mk (blk_below (g := gb114) (o := .cells #[.int .u64 x8_1, .int .i64 x115001_2] 38 (0, 0)) (by (with_reducible repeat (first | refine blk_drewN ?_ _ | refine blk_drew ?_ | refine blk_alloc ?_ _)); refine blk_far ?_ NB114_117.out _; (with_reducible repeat (first | refine blk_drewN ?_ _ | refine blk_drew ?_ | refine blk_alloc ?_ _)); refine blk_far ?_ NB114_117.out _; (with_reducible repeat (first | refine blk_drewN ?_ _ | refine blk_drew ?_ | refine blk_alloc ?_ _)); exact BK114.out) hb); have n2_ := Aside0.mk (blk_below (g := gb117) (o := .cells #[.int .i64 ((rd_T34 l0 x31_2).f0), .int .i64 ((rd_T34 l0 x31_2).f1)] 34 (0, 0)) (by (with_reducible repeat (first | refine blk_drewN ?_ _ | refine blk_drew ?_ | refine blk_alloc ?_ _)); refine blk_put (cs := #[.int .i64 ((rd_T34 l0 x31_2).f0), .int .i64 0]) ?_ 1 _ rfl; (with_reducible repeat (first | refine blk_drewN ?_ _ | refine blk_drew ?_ | refine blk_alloc ?_ _)); refine blk_put (cs := #[.int .i64 0, .int .i64 0]) ?_ 0 _ rfl; (with_reducible repeat (first | refine blk_drewN ?_ _ | refine blk_drew ?_ | refine blk_alloc ?_ _)); exact BK117.out) hb); have n3_ := Aside0.mk (below_step (by repeat (first | (with_reducible first | exact HB.out | apply below_alloc | apply pw_below_drewN | apply below_drew1 | refine below_set ?_ GE113.out | refine below_set ?_ GE114.out | refine below_set ?_ GE117.out) | exact HB.out)) hb); clear BK113; clear BK114; clear BK117; clear HB; have BK113 := n0_; have BK114 := n1_; have BK117 := n2_; have HB := n3_; clear n0_ n1_ n2_ n3_; (try clear hb); (try clear hb2); (try clear hk); (try clear hi); have hnb36 := NB114_113.out; have hnc36 := NB113_114.out; have hcz37_0 : w35.cell? ⟨gb114, 0, none⟩ = some (.int .u64 x8_1) := (blk_cell BK114.out 0).trans rfl; have hcz37_1 : w35.cell? ⟨gb114, 1, none⟩ = some (.int .i64 x115001_2) := (blk_cell BK114.out 1).trans rfl; have hfz37_0 := blk_frozen BK114.out 0; have hfz37_1 := blk_frozen BK114.out 1; have hcz38_0 : w35.cell? ⟨gb113, 0, none⟩ = some (.int .u64 x114000_1) := (blk_cell BK113.out 0).trans rfl; have hcz38_1 : w35.cell? ⟨gb113, 1, none⟩ = some (.int .i64 x114001_1) := (blk_cell BK113.out 1).trans rfl; have hfz38_0 := blk_frozen BK113.out 0; have hfz38_1 := blk_frozen BK113.out 1) | (go_at_call 14; (with_reducible refine (quota_choice_better.calls x8_1 65 x114000_1 x114001_1 true _ A29.out).mono ?_); rintro e w39 ⟨rfl, hb⟩; have n0_ := Aside0.mk (blk_below (g := gb113) (o := .cells #[.int .u64 x114000_1, .int .i64 x114001_1] 38 (0, 0)) (by (with_reducible repeat (first | refine blk_drewN ?_ _ | refine blk_drew ?_ | refine blk_alloc ?_ _)); refine blk_far ?_ NB113_114.out _; (with_reducible repeat (first | refine blk_drewN ?_ _ | refine blk_drew ?_ | refine blk_alloc ?_ _)); exact BK113.out) hb); have n1_ := Aside0.mk (blk_below (g := gb114) (o := .cells #[.int .u64 x8_1, .int .i64 65] 38 (0, 0)) (by (with_reducible repeat (first | refine blk_drewN ?_ _ | refine blk_drew ?_ | refine blk_alloc ?_ _)); refine blk_put (cs := #[.int .u64 x8_1, .int .i64 x115001_2]) ?_ 1 _ rfl; (with_reducible repeat (first | refine blk_drewN ?_ _ | refine blk_drew ?_ | refine blk_alloc ?_ _)); exact BK114.out) hb); have n2_ := Aside0.mk (blk_below (g := gb117) (o := .cells #[.int .i64 ((rd_T34 l0 x31_2).f0), .int .i64 ((rd_T34 l0 x31_2).f1)] 34 (0, 0)) (by (with_reducible repeat (first | refine blk_drewN ?_ _ | refine blk_drew ?_ | refine blk_alloc ?_ _)); refine blk_far ?_ NB117_114.out _; (with_reducible repeat (first | refine blk_drewN ?_ _ | refine blk_drew ?_ | refine blk_alloc ?_ _)); exact BK117.out) hb); have n3_ := Aside0.mk (below_step (by repeat (first | (with_reducible first | exact HB.out | apply below_alloc | apply pw_below_drewN | apply below_drew1 | refine below_set ?_ GE113.out | refine below_set ?_ GE114.out | refine below_set ?_ GE117.out) | exact HB.out)) hb); clear BK113; clear BK114; clear BK117; clear HB; have BK113 := n0_; have BK114 := n1_; have BK117 := n2_; have HB := n3_; clear n0_ n1_ n2_ n3_; (try clear hb); (try clear hb2); (try clear hk); (try clear hi); have hcz40_0 : w39.cell? ⟨gb114, 0, none⟩ = some (.int .u64 x8_1) := (blk_cell BK114.out 0).trans rfl; have hcz40_1 : w39.cell? ⟨gb114, 1, none⟩ = some (.int .i64 65) := (blk_cell BK114.out 1).trans rfl; have hfz40_0 := blk_frozen BK114.out 0; have hfz40_1 := blk_frozen BK114.out 1; have hcz41_0 : w39.cell? ⟨gb113, 0, none⟩ = some (.int .u64 x114000_1) := (blk_cell BK113.out 0).trans rfl; have hcz41_1 : w39.cell? ⟨gb113, 1, none⟩ = some (.int .i64 x114001_1) := (blk_cell BK113.out 1).trans rfl; have hfz41_0 := blk_frozen BK113.out 0; have hfz41_1 := blk_frozen BK113.out 1))
                go_roundg k2
                case measure => have := HK1.out; have := HK2.out; omega
                case rel => exact ⟨(IntKind.u64.wrap (x8_1 + 1)), (x8_1), (65), (by first | rfl | (simp; done) | (simp [*]; done)), H', ⟨by have := HK1.out; have := HK2.out; omega⟩, ⟨by (with_reducible repeat (first | refine blk_drewN ?_ _ | refine blk_drew ?_ | refine blk_alloc ?_ _)); refine blk_put (cs := #[.int .u64 x8_1, .int .i64 x114001_1]) ?_ 1 _ rfl; (with_reducible repeat (first | refine blk_drewN ?_ _ | refine blk_drew ?_ | refine blk_alloc ?_ _)); refine blk_put (cs := #[.int .u64 x114000_1, .int .i64 x114001_1]) ?_ 0 _ rfl; (with_reducible repeat (first | refine blk_drewN ?_ _ | refine blk_drew ?_ | refine blk_alloc ?_ _)); exact BK113.out⟩, ⟨by repeat (first | (with_reducible first | exact HB.out | apply below_alloc | apply pw_below_drewN | apply below_drew1 | refine below_set ?_ GE113.out | refine below_set ?_ GE114.out | refine below_set ?_ GE117.out) | exact HB.out)⟩⟩
               ·replace c30 := Bool.eq_false_iff.mpr c30
                subst c30
                have H1 : (quota_Fullest.l0 k2 l0 a1 a2 (IntKind.u64.wrap (x8_1 + 1)) x114000_1 x114001_1) = some r := by rw [if_neg (show ¬ (false = true) by decide)] at H; exact H
                clear H
                have H := H1
                clear H1
                have H' := Aside0.mk H
                clear H
                have p116 : 0 ≤ (x31_2 : Int) := of_decide_eq_true (by first | (with_reducible assumption) | assumption)
                have q116 : x31_2 < (l0.length : Int) := of_decide_eq_true (by first | (with_reducible assumption) | assumption)
                obtain ⟨ad116, e116, hx116_0, hx116_1⟩ := at_T34 HR0.out x31_2 p116 q116
                cases e116
                replace hx116_0 := (HB.out.cell (World.block_lt_of_cell? w _ hx116_0)).trans hx116_0
                replace hx116_1 := (HB.out.cell (World.block_lt_of_cell? w _ hx116_1)).trans hx116_1
                replace p116 := eq_true p116
                replace q116 := eq_true q116
                go_wp2_with (first | ((with_reducible refine gate_dst (N := 11) rfl ?_); refine box_event ?hg (N := 11) ?hd (cs := #[.int .i64 0, .int .i64 0]) (t := 34) ?hr ?_; (case hd => rfl); (case hg => rfl); (case hr => first | (go_simp; done) | (go_simp; rfl)); intro gb117 hg w42 hbox hb; have n0_ := Aside0.mk (blk_below (g := gb113) (o := .cells #[.int .u64 x114000_1, .int .i64 x114001_1] 38 (0, 0)) (by (with_reducible repeat (first | refine blk_drewN ?_ _ | refine blk_drew ?_ | refine blk_alloc ?_ _)); exact BK113.out) hb); have n1_ := Aside0.mk (blk_below (g := gb114) (o := .cells #[.int .u64 x8_1, .int .i64 x115001_2] 38 (0, 0)) (by (with_reducible repeat (first | refine blk_drewN ?_ _ | refine blk_drew ?_ | refine blk_alloc ?_ _)); exact BK114.out) hb); have n2_ := Aside0.mk (below_step (by repeat (first | (with_reducible first | exact HB.out | apply below_alloc | apply pw_below_drewN | apply below_drew1 | refine below_set ?_ GE113.out | refine below_set ?_ GE114.out) | exact HB.out)) hb); have n3_ := Aside0.mk (hbox); have n4_ := Aside0.mk ((by rw [hg]; exact (below_size (by repeat (first | (with_reducible first | exact HB.out | apply below_alloc | apply pw_below_drewN | apply below_drew1 | refine below_set ?_ GE113.out | refine below_set ?_ GE114.out) | exact HB.out))) : w.heap.size ≤ gb117)); have n5_ := Aside0.mk ((by rw [hg]; exact (below_size (by repeat (first | (with_reducible first | exact HB.out | apply below_alloc | apply pw_below_drewN | apply below_drew1 | refine below_set ?_ GE113.out | refine below_set ?_ GE114.out) | exact HB.out))) : w.heap.size ≤ gb117)); have n6_ := Aside0.mk ((by rw [hg]; exact Nat.ne_of_lt (blk_lt (g := gb113) (o := .cells #[.int .u64 x114000_1, .int .i64 x114001_1] 38 (0, 0)) (by (with_reducible repeat (first | refine blk_drewN ?_ _ | refine blk_drew ?_ | refine blk_alloc ?_ _)); exact BK113.out)) : gb113 ≠ gb117)); have n7_ := Aside0.mk ((by rw [hg]; exact Nat.ne_of_gt (blk_lt (g := gb113) (o := .cells #[.int .u64 x114000_1, .int .i64 x114001_1] 38 (0, 0)) (by (with_reducible repeat (first | refine blk_drewN ?_ _ | refine blk_drew ?_ | refine blk_alloc ?_ _)); exact BK113.out)) : gb117 ≠ gb113)); have n8_ := Aside0.mk ((by rw [hg]; exact Nat.ne_of_lt (blk_lt (g := gb114) (o := .cells #[.int .u64 x8_1, .int .i64 x115001_2] 38 (0, 0)) (by (with_reducible repeat (first | refine blk_drewN ?_ _ | refine blk_drew ?_ | refine blk_alloc ?_ _)); exact BK114.out)) : gb114 ≠ gb117)); have n9_ := Aside0.mk ((by rw [hg]; exact Nat.ne_of_gt (blk_lt (g := gb114) (o := .cells #[.int .u64 x8_1, .int .i64 x115001_2] 38 (0, 0)) (by (with_reducible repeat (first | refine blk_drewN ?_ _ | refine blk_drew ?_ | refine blk_alloc ?_ _)); exact BK114.out)) : gb117 ≠ gb114)); clear BK113; clear BK114; clear HB; have BK113 := n0_; have BK114 := n1_; have HB := n2_; have BK117 := n3_; have GW117 := n4_; have GE117 := n5_; have NB113_117 := n6_; have NB117_113 := n7_; have NB114_117 := n8_; have NB117_114 := n9_; clear n0_ n1_ n2_ n3_ n4_ n5_ n6_ n7_ n8_ n9_; clear hb hbox hg; have hnb43 := NB117_113.out; have hnc43 := NB113_117.out; have hnb44 := NB117_114.out; have hnc44 := NB114_117.out; have hcz45_0 : w42.cell? ⟨gb117, 0, none⟩ = some (.int .i64 0) := (blk_cell BK117.out 0).trans rfl; have hcz45_1 : w42.cell? ⟨gb117, 1, none⟩ = some (.int .i64 0) := (blk_cell BK117.out 1).trans rfl; have hfz45_0 := blk_frozen BK117.out 0; have hfz45_1 := blk_frozen BK117.out 1) | ((with_reducible refine gate_callee (f := 13) rfl ?_); refine goesL_ (some 44) rfl rfl Try.func13 (by kernel_rfl) rfl #[.agg #[.int .i64 ((rd_T34 l0 x31_2).f0), .int .i64 ((rd_T34 l0 x31_2).f1)], .int .i64 a2] rfl (by (try simp only [List.map_toArray, List.map_cons, List.map_nil]); first | done | rfl | (simp only [List.length_drop, List.length_take]; rfl)) ?_; (with_reducible refine (quota_Cost.calls ((rd_T34 l0 x31_2).f0) ((rd_T34 l0 x31_2).f1) a2 t118 _ A25.out).mono ?_); rintro e w46 ⟨rfl, hb⟩; refine ⟨_, rfl, ?_⟩; have n0_ := Aside0.mk (blk_below (g := gb113) (o := .cells #[.int .u64 x114000_1, .int .i64 x114001_1] 38 (0, 0)) (by (with_reducible repeat (first | refine blk_drewN ?_ _ | refine blk_drew ?_ | refine blk_alloc ?_ _)); refine blk_far ?_ NB113_117.out _; (with_reducible repeat (first | refine blk_drewN ?_ _ | refine blk_drew ?_ | refine blk_alloc ?_ _)); refine blk_far ?_ NB113_117.out _; (with_reducible repeat (first | refine blk_drewN ?_ _ | refine blk_drew ?_ | refine blk_alloc ?_ _)); exact BK113.out) hb); have n1_ := Aside0.mk (blk_below (g := gb114) (o := .cells #[.int .u64 x8_1, .int .i64 x115001_2] 38 (0, 0)) (by (with_reducible repeat (first | refine blk_drewN ?_ _ | refine blk_drew ?_ | refine blk_alloc ?_ _)); refine blk_far ?_ NB114_117.out _; (with_reducible repeat (first | refine blk_drewN ?_ _ | refine blk_drew ?_ | refine blk_alloc ?_ _)); refine blk_far ?_ NB114_117.out _; (with_reducible repeat (first | refine blk_drewN ?_ _ | refine blk_drew ?_ | refine blk_alloc ?_ _)); exact BK114.out) hb); have n2_ := Aside0.mk (blk_below (g := gb117) (o := .cells #[.int .i64 ((rd_T34 l0 x31_2).f0), .int .i64 ((rd_T34 l0 x31_2).f1)] 34 (0, 0)) (by (with_reducible repeat (first | refine blk_drewN ?_ _ | refine blk_drew ?_ | refine blk_alloc ?_ _)); refine blk_put (cs := #[.int .i64 ((rd_T34 l0 x31_2).f0), .int .i64 0]) ?_ 1 _ rfl; (with_reducible repeat (first | refine blk_drewN ?_ _ | refine blk_drew ?_ | refine blk_alloc ?_ _)); refine blk_put (cs := #[.int .i64 0, .int .i64 0]) ?_ 0 _ rfl; (with_reducible repeat (first | refine blk_drewN ?_ _ | refine blk_drew ?_ | refine blk_alloc ?_ _)); exact BK117.out) hb); have n3_ := Aside0.mk (below_step (by repeat (first | (with_reducible first | exact HB.out | apply below_alloc | apply pw_below_drewN | apply below_drew1 | refine below_set ?_ GE113.out | refine below_set ?_ GE114.out | refine below_set ?_ GE117.out) | exact HB.out)) hb); clear BK113; clear BK114; clear BK117; clear HB; have BK113 := n0_; have BK114 := n1_; have BK117 := n2_; have HB := n3_; clear n0_ n1_ n2_ n3_; (try clear hb); (try clear hb2); (try clear hk); (try clear hi); have hnb47 := NB114_113.out; have hnc47 := NB113_114.out; have hcz48_0 : w46.cell? ⟨gb114, 0, none⟩ = some (.int .u64 x8_1) := (blk_cell BK114.out 0).trans rfl; have hcz48_1 : w46.cell? ⟨gb114, 1, none⟩ = some (.int .i64 x115001_2) := (blk_cell BK114.out 1).trans rfl; have hfz48_0 := blk_frozen BK114.out 0; have hfz48_1 := blk_frozen BK114.out 1; have hcz49_0 : w46.cell? ⟨gb113, 0, none⟩ = some (.int .u64 x114000_1) := (blk_cell BK113.out 0).trans rfl; have hcz49_1 : w46.cell? ⟨gb113, 1, none⟩ = some (.int .i64 x114001_1) := (blk_cell BK113.out 1).trans rfl; have hfz49_0 := blk_frozen BK113.out 0; have hfz49_1 := blk_frozen BK113.out 1) | (go_at_call 14; (with_reducible refine (quota_choice_better.calls x8_1 65 x114000_1 x114001_1 false _ A29.out).mono ?_); rintro e w50 ⟨rfl, hb⟩; have n0_ := Aside0.mk (blk_below (g := gb113) (o := .cells #[.int .u64 x114000_1, .int .i64 x114001_1] 38 (0, 0)) (by (with_reducible repeat (first | refine blk_drewN ?_ _ | refine blk_drew ?_ | refine blk_alloc ?_ _)); refine blk_far ?_ NB113_114.out _; (with_reducible repeat (first | refine blk_drewN ?_ _ | refine blk_drew ?_ | refine blk_alloc ?_ _)); exact BK113.out) hb); have n1_ := Aside0.mk (blk_below (g := gb114) (o := .cells #[.int .u64 x8_1, .int .i64 65] 38 (0, 0)) (by (with_reducible repeat (first | refine blk_drewN ?_ _ | refine blk_drew ?_ | refine blk_alloc ?_ _)); refine blk_put (cs := #[.int .u64 x8_1, .int .i64 x115001_2]) ?_ 1 _ rfl; (with_reducible repeat (first | refine blk_drewN ?_ _ | refine blk_drew ?_ | refine blk_alloc ?_ _)); exact BK114.out) hb); have n2_ := Aside0.mk (blk_below (g := gb117) (o := .cells #[.int .i64 ((rd_T34 l0 x31_2).f0), .int .i64 ((rd_T34 l0 x31_2).f1)] 34 (0, 0)) (by (with_reducible repeat (first | refine blk_drewN ?_ _ | refine blk_drew ?_ | refine blk_alloc ?_ _)); refine blk_far ?_ NB117_114.out _; (with_reducible repeat (first | refine blk_drewN ?_ _ | refine blk_drew ?_ | refine blk_alloc ?_ _)); exact BK117.out) hb); have n3_ := Aside0.mk (below_step (by repeat (first | (with_reducible first | exact HB.out | apply below_alloc | apply pw_below_drewN | apply below_drew1 | refine below_set ?_ GE113.out | refine below_set ?_ GE114.out | refine below_set ?_ GE117.out) | exact HB.out)) hb); clear BK113; clear BK114; clear BK117; clear HB; have BK113 := n0_; have BK114 := n1_; have BK117 := n2_; have HB := n3_; clear n0_ n1_ n2_ n3_; (try clear hb); (try clear hb2); (try clear hk); (try clear hi)))
                go_roundg k2
                case measure => have := HK1.out; have := HK2.out; omega
                case rel => exact ⟨(IntKind.u64.wrap (x8_1 + 1)), (x114000_1), (x114001_1), (by first | rfl | (simp; done) | (simp [*]; done)), H', ⟨by have := HK1.out; have := HK2.out; omega⟩, ⟨by (with_reducible repeat (first | refine blk_drewN ?_ _ | refine blk_drew ?_ | refine blk_alloc ?_ _)); exact BK113.out⟩, ⟨by repeat (first | (with_reducible first | exact HB.out | apply below_alloc | apply pw_below_drewN | apply below_drew1 | refine below_set ?_ GE113.out | refine below_set ?_ GE114.out | refine below_set ?_ GE117.out) | exact HB.out)⟩⟩
              ·rw [if_neg c28] at H
               have c28b0 : decide (65 ≤ (ji27)) = false := decide_eq_false c28
               clear c28
               have H' := Aside0.mk H
               clear H
               have p116 : 0 ≤ (x31_2 : Int) := of_decide_eq_true (by first | (with_reducible assumption) | assumption)
               have q116 : x31_2 < (l0.length : Int) := of_decide_eq_true (by first | (with_reducible assumption) | assumption)
               obtain ⟨ad116, e116, hx116_0, hx116_1⟩ := at_T34 HR0.out x31_2 p116 q116
               cases e116
               replace hx116_0 := (HB.out.cell (World.block_lt_of_cell? w _ hx116_0)).trans hx116_0
               replace hx116_1 := (HB.out.cell (World.block_lt_of_cell? w _ hx116_1)).trans hx116_1
               replace p116 := eq_true p116
               replace q116 := eq_true q116
               go_wp2_with (first | ((with_reducible refine gate_dst (N := 11) rfl ?_); refine box_event ?hg (N := 11) ?hd (cs := #[.int .i64 0, .int .i64 0]) (t := 34) ?hr ?_; (case hd => rfl); (case hg => rfl); (case hr => first | (go_simp; done) | (go_simp; rfl)); intro gb117 hg w51 hbox hb; have n0_ := Aside0.mk (blk_below (g := gb113) (o := .cells #[.int .u64 x114000_1, .int .i64 x114001_1] 38 (0, 0)) (by (with_reducible repeat (first | refine blk_drewN ?_ _ | refine blk_drew ?_ | refine blk_alloc ?_ _)); exact BK113.out) hb); have n1_ := Aside0.mk (blk_below (g := gb114) (o := .cells #[.int .u64 x8_1, .int .i64 x115001_2] 38 (0, 0)) (by (with_reducible repeat (first | refine blk_drewN ?_ _ | refine blk_drew ?_ | refine blk_alloc ?_ _)); exact BK114.out) hb); have n2_ := Aside0.mk (below_step (by repeat (first | (with_reducible first | exact HB.out | apply below_alloc | apply pw_below_drewN | apply below_drew1 | refine below_set ?_ GE113.out | refine below_set ?_ GE114.out) | exact HB.out)) hb); have n3_ := Aside0.mk (hbox); have n4_ := Aside0.mk ((by rw [hg]; exact (below_size (by repeat (first | (with_reducible first | exact HB.out | apply below_alloc | apply pw_below_drewN | apply below_drew1 | refine below_set ?_ GE113.out | refine below_set ?_ GE114.out) | exact HB.out))) : w.heap.size ≤ gb117)); have n5_ := Aside0.mk ((by rw [hg]; exact (below_size (by repeat (first | (with_reducible first | exact HB.out | apply below_alloc | apply pw_below_drewN | apply below_drew1 | refine below_set ?_ GE113.out | refine below_set ?_ GE114.out) | exact HB.out))) : w.heap.size ≤ gb117)); have n6_ := Aside0.mk ((by rw [hg]; exact Nat.ne_of_lt (blk_lt (g := gb113) (o := .cells #[.int .u64 x114000_1, .int .i64 x114001_1] 38 (0, 0)) (by (with_reducible repeat (first | refine blk_drewN ?_ _ | refine blk_drew ?_ | refine blk_alloc ?_ _)); exact BK113.out)) : gb113 ≠ gb117)); have n7_ := Aside0.mk ((by rw [hg]; exact Nat.ne_of_gt (blk_lt (g := gb113) (o := .cells #[.int .u64 x114000_1, .int .i64 x114001_1] 38 (0, 0)) (by (with_reducible repeat (first | refine blk_drewN ?_ _ | refine blk_drew ?_ | refine blk_alloc ?_ _)); exact BK113.out)) : gb117 ≠ gb113)); have n8_ := Aside0.mk ((by rw [hg]; exact Nat.ne_of_lt (blk_lt (g := gb114) (o := .cells #[.int .u64 x8_1, .int .i64 x115001_2] 38 (0, 0)) (by (with_reducible repeat (first | refine blk_drewN ?_ _ | refine blk_drew ?_ | refine blk_alloc ?_ _)); exact BK114.out)) : gb114 ≠ gb117)); have n9_ := Aside0.mk ((by rw [hg]; exact Nat.ne_of_gt (blk_lt (g := gb114) (o := .cells #[.int .u64 x8_1, .int .i64 x115001_2] 38 (0, 0)) (by (with_reducible repeat (first | refine blk_drewN ?_ _ | refine blk_drew ?_ | refine blk_alloc ?_ _)); exact BK114.out)) : gb117 ≠ gb114)); clear BK113; clear BK114; clear HB; have BK113 := n0_; have BK114 := n1_; have HB := n2_; have BK117 := n3_; have GW117 := n4_; have GE117 := n5_; have NB113_117 := n6_; have NB117_113 := n7_; have NB114_117 := n8_; have NB117_114 := n9_; clear n0_ n1_ n2_ n3_ n4_ n5_ n6_ n7_ n8_ n9_; clear hb hbox hg; have hnb52 := NB117_113.out; have hnc52 := NB113_117.out; have hnb53 := NB117_114.out; have hnc53 := NB114_117.out; have hcz54_0 : w51.cell? ⟨gb117, 0, none⟩ = some (.int .i64 0) := (blk_cell BK117.out 0).trans rfl; have hcz54_1 : w51.cell? ⟨gb117, 1, none⟩ = some (.int .i64 0) := (blk_cell BK117.out 1).trans rfl; have hfz54_0 := blk_frozen BK117.out 0; have hfz54_1 := blk_frozen BK117.out 1) | ((with_reducible refine gate_callee (f := 13) rfl ?_); refine goesL_ (some 44) rfl rfl Try.func13 (by kernel_rfl) rfl #[.agg #[.int .i64 ((rd_T34 l0 x31_2).f0), .int .i64 ((rd_T34 l0 x31_2).f1)], .int .i64 a2] rfl (by (try simp only [List.map_toArray, List.map_cons, List.map_nil]); first | done | rfl | (simp only [List.length_drop, List.length_take]; rfl)) ?_; (with_reducible refine (quota_Cost.calls ((rd_T34 l0 x31_2).f0) ((rd_T34 l0 x31_2).f1) a2 t118 _ A25.out).mono ?_); rintro e w55 ⟨rfl, hb⟩; refine ⟨_, rfl, ?_⟩; have n0_ := Aside0.mk (blk_below (g := gb113) (o := .cells #[.int .u64 x114000_1, .int .i64 x114001_1] 38 (0, 0)) (by (with_reducible repeat (first | refine blk_drewN ?_ _ | refine blk_drew ?_ | refine blk_alloc ?_ _)); refine blk_far ?_ NB113_117.out _; (with_reducible repeat (first | refine blk_drewN ?_ _ | refine blk_drew ?_ | refine blk_alloc ?_ _)); refine blk_far ?_ NB113_117.out _; (with_reducible repeat (first | refine blk_drewN ?_ _ | refine blk_drew ?_ | refine blk_alloc ?_ _)); exact BK113.out) hb); have n1_ := Aside0.mk (blk_below (g := gb114) (o := .cells #[.int .u64 x8_1, .int .i64 x115001_2] 38 (0, 0)) (by (with_reducible repeat (first | refine blk_drewN ?_ _ | refine blk_drew ?_ | refine blk_alloc ?_ _)); refine blk_far ?_ NB114_117.out _; (with_reducible repeat (first | refine blk_drewN ?_ _ | refine blk_drew ?_ | refine blk_alloc ?_ _)); refine blk_far ?_ NB114_117.out _; (with_reducible repeat (first | refine blk_drewN ?_ _ | refine blk_drew ?_ | refine blk_alloc ?_ _)); exact BK114.out) hb); have n2_ := Aside0.mk (blk_below (g := gb117) (o := .cells #[.int .i64 ((rd_T34 l0 x31_2).f0), .int .i64 ((rd_T34 l0 x31_2).f1)] 34 (0, 0)) (by (with_reducible repeat (first | refine blk_drewN ?_ _ | refine blk_drew ?_ | refine blk_alloc ?_ _)); refine blk_put (cs := #[.int .i64 ((rd_T34 l0 x31_2).f0), .int .i64 0]) ?_ 1 _ rfl; (with_reducible repeat (first | refine blk_drewN ?_ _ | refine blk_drew ?_ | refine blk_alloc ?_ _)); refine blk_put (cs := #[.int .i64 0, .int .i64 0]) ?_ 0 _ rfl; (with_reducible repeat (first | refine blk_drewN ?_ _ | refine blk_drew ?_ | refine blk_alloc ?_ _)); exact BK117.out) hb); have n3_ := Aside0.mk (below_step (by repeat (first | (with_reducible first | exact HB.out | apply below_alloc | apply pw_below_drewN | apply below_drew1 | refine below_set ?_ GE113.out | refine below_set ?_ GE114.out | refine below_set ?_ GE117.out) | exact HB.out)) hb); clear BK113; clear BK114; clear BK117; clear HB; have BK113 := n0_; have BK114 := n1_; have BK117 := n2_; have HB := n3_; clear n0_ n1_ n2_ n3_; (try clear hb); (try clear hb2); (try clear hk); (try clear hi); have hnb56 := NB114_113.out; have hnc56 := NB113_114.out; have hcz57_0 : w55.cell? ⟨gb114, 0, none⟩ = some (.int .u64 x8_1) := (blk_cell BK114.out 0).trans rfl; have hcz57_1 : w55.cell? ⟨gb114, 1, none⟩ = some (.int .i64 x115001_2) := (blk_cell BK114.out 1).trans rfl; have hfz57_0 := blk_frozen BK114.out 0; have hfz57_1 := blk_frozen BK114.out 1))
               go_roundg k2
               case measure => have := HK1.out; have := HK2.out; omega
               case rel => exact ⟨(IntKind.u64.wrap (x8_1 + 1)), (x114000_1), (x114001_1), (by first | rfl | (simp; done) | (simp [*]; done)), H', ⟨by have := HK1.out; have := HK2.out; omega⟩, ⟨by (with_reducible repeat (first | refine blk_drewN ?_ _ | refine blk_drew ?_ | refine blk_alloc ?_ _)); refine blk_far ?_ NB113_114.out _; (with_reducible repeat (first | refine blk_drewN ?_ _ | refine blk_drew ?_ | refine blk_alloc ?_ _)); exact BK113.out⟩, ⟨by repeat (first | (with_reducible first | exact HB.out | apply below_alloc | apply pw_below_drewN | apply below_drew1 | refine below_set ?_ GE113.out | refine below_set ?_ GE114.out | refine below_set ?_ GE117.out) | exact HB.out)⟩⟩
             ·rw [if_neg c26] at H
              have c26b0 : (t118 == 0) = false := beq_eq_false_iff_ne.mpr c26
              have c26b1 : (t118 != 0) = true := bne_iff_ne.mpr c26
              have H' := Aside0.mk H
              clear H
              have p116 : 0 ≤ (x31_2 : Int) := of_decide_eq_true (by first | (with_reducible assumption) | assumption)
              have q116 : x31_2 < (l0.length : Int) := of_decide_eq_true (by first | (with_reducible assumption) | assumption)
              obtain ⟨ad116, e116, hx116_0, hx116_1⟩ := at_T34 HR0.out x31_2 p116 q116
              cases e116
              replace hx116_0 := (HB.out.cell (World.block_lt_of_cell? w _ hx116_0)).trans hx116_0
              replace hx116_1 := (HB.out.cell (World.block_lt_of_cell? w _ hx116_1)).trans hx116_1
              replace p116 := eq_true p116
              replace q116 := eq_true q116
              go_wp2_with (first | ((with_reducible refine gate_dst (N := 11) rfl ?_); refine box_event ?hg (N := 11) ?hd (cs := #[.int .i64 0, .int .i64 0]) (t := 34) ?hr ?_; (case hd => rfl); (case hg => rfl); (case hr => first | (go_simp; done) | (go_simp; rfl)); intro gb117 hg w58 hbox hb; have n0_ := Aside0.mk (blk_below (g := gb113) (o := .cells #[.int .u64 x114000_1, .int .i64 x114001_1] 38 (0, 0)) (by (with_reducible repeat (first | refine blk_drewN ?_ _ | refine blk_drew ?_ | refine blk_alloc ?_ _)); exact BK113.out) hb); have n1_ := Aside0.mk (blk_below (g := gb114) (o := .cells #[.int .u64 x8_1, .int .i64 x115001_2] 38 (0, 0)) (by (with_reducible repeat (first | refine blk_drewN ?_ _ | refine blk_drew ?_ | refine blk_alloc ?_ _)); exact BK114.out) hb); have n2_ := Aside0.mk (below_step (by repeat (first | (with_reducible first | exact HB.out | apply below_alloc | apply pw_below_drewN | apply below_drew1 | refine below_set ?_ GE113.out | refine below_set ?_ GE114.out) | exact HB.out)) hb); have n3_ := Aside0.mk (hbox); have n4_ := Aside0.mk ((by rw [hg]; exact (below_size (by repeat (first | (with_reducible first | exact HB.out | apply below_alloc | apply pw_below_drewN | apply below_drew1 | refine below_set ?_ GE113.out | refine below_set ?_ GE114.out) | exact HB.out))) : w.heap.size ≤ gb117)); have n5_ := Aside0.mk ((by rw [hg]; exact (below_size (by repeat (first | (with_reducible first | exact HB.out | apply below_alloc | apply pw_below_drewN | apply below_drew1 | refine below_set ?_ GE113.out | refine below_set ?_ GE114.out) | exact HB.out))) : w.heap.size ≤ gb117)); have n6_ := Aside0.mk ((by rw [hg]; exact Nat.ne_of_lt (blk_lt (g := gb113) (o := .cells #[.int .u64 x114000_1, .int .i64 x114001_1] 38 (0, 0)) (by (with_reducible repeat (first | refine blk_drewN ?_ _ | refine blk_drew ?_ | refine blk_alloc ?_ _)); exact BK113.out)) : gb113 ≠ gb117)); have n7_ := Aside0.mk ((by rw [hg]; exact Nat.ne_of_gt (blk_lt (g := gb113) (o := .cells #[.int .u64 x114000_1, .int .i64 x114001_1] 38 (0, 0)) (by (with_reducible repeat (first | refine blk_drewN ?_ _ | refine blk_drew ?_ | refine blk_alloc ?_ _)); exact BK113.out)) : gb117 ≠ gb113)); have n8_ := Aside0.mk ((by rw [hg]; exact Nat.ne_of_lt (blk_lt (g := gb114) (o := .cells #[.int .u64 x8_1, .int .i64 x115001_2] 38 (0, 0)) (by (with_reducible repeat (first | refine blk_drewN ?_ _ | refine blk_drew ?_ | refine blk_alloc ?_ _)); exact BK114.out)) : gb114 ≠ gb117)); have n9_ := Aside0.mk ((by rw [hg]; exact Nat.ne_of_gt (blk_lt (g := gb114) (o := .cells #[.int .u64 x8_1, .int .i64 x115001_2] 38 (0, 0)) (by (with_reducible repeat (first | refine blk_drewN ?_ _ | refine blk_drew ?_ | refine blk_alloc ?_ _)); exact BK114.out)) : gb117 ≠ gb114)); clear BK113; clear BK114; clear HB; have BK113 := n0_; have BK114 := n1_; have HB := n2_; have BK117 := n3_; have GW117 := n4_; have GE117 := n5_; have NB113_117 := n6_; have NB117_113 := n7_; have NB114_117 := n8_; have NB117_114 := n9_; clear n0_ n1_ n2_ n3_ n4_ n5_ n6_ n7_ n8_ n9_; clear hb hbox hg; have hnb59 := NB117_113.out; have hnc59 := NB113_117.out; have hnb60 := NB117_114.out; have hnc60 := NB114_117.out; have hcz61_0 : w58.cell? ⟨gb117, 0, none⟩ = some (.int .i64 0) := (blk_cell BK117.out 0).trans rfl; have hcz61_1 : w58.cell? ⟨gb117, 1, none⟩ = some (.int .i64 0) := (blk_cell BK117.out 1).trans rfl; have hfz61_0 := blk_frozen BK117.out 0; have hfz61_1 := blk_frozen BK117.out 1) | ((with_reducible refine gate_callee (f := 13) rfl ?_); refine goesL_ (some 44) rfl rfl Try.func13 (by kernel_rfl) rfl #[.agg #[.int .i64 ((rd_T34 l0 x31_2).f0), .int .i64 ((rd_T34 l0 x31_2).f1)], .int .i64 a2] rfl (by (try simp only [List.map_toArray, List.map_cons, List.map_nil]); first | done | rfl | (simp only [List.length_drop, List.length_take]; rfl)) ?_; (with_reducible refine (quota_Cost.calls ((rd_T34 l0 x31_2).f0) ((rd_T34 l0 x31_2).f1) a2 t118 _ A25.out).mono ?_); rintro e w62 ⟨rfl, hb⟩; refine ⟨_, rfl, ?_⟩; have n0_ := Aside0.mk (blk_below (g := gb113) (o := .cells #[.int .u64 x114000_1, .int .i64 x114001_1] 38 (0, 0)) (by (with_reducible repeat (first | refine blk_drewN ?_ _ | refine blk_drew ?_ | refine blk_alloc ?_ _)); refine blk_far ?_ NB113_117.out _; (with_reducible repeat (first | refine blk_drewN ?_ _ | refine blk_drew ?_ | refine blk_alloc ?_ _)); refine blk_far ?_ NB113_117.out _; (with_reducible repeat (first | refine blk_drewN ?_ _ | refine blk_drew ?_ | refine blk_alloc ?_ _)); exact BK113.out) hb); have n1_ := Aside0.mk (blk_below (g := gb114) (o := .cells #[.int .u64 x8_1, .int .i64 x115001_2] 38 (0, 0)) (by (with_reducible repeat (first | refine blk_drewN ?_ _ | refine blk_drew ?_ | refine blk_alloc ?_ _)); refine blk_far ?_ NB114_117.out _; (with_reducible repeat (first | refine blk_drewN ?_ _ | refine blk_drew ?_ | refine blk_alloc ?_ _)); refine blk_far ?_ NB114_117.out _; (with_reducible repeat (first | refine blk_drewN ?_ _ | refine blk_drew ?_ | refine blk_alloc ?_ _)); exact BK114.out) hb); have n2_ := Aside0.mk (blk_below (g := gb117) (o := .cells #[.int .i64 ((rd_T34 l0 x31_2).f0), .int .i64 ((rd_T34 l0 x31_2).f1)] 34 (0, 0)) (by (with_reducible repeat (first | refine blk_drewN ?_ _ | refine blk_drew ?_ | refine blk_alloc ?_ _)); refine blk_put (cs := #[.int .i64 ((rd_T34 l0 x31_2).f0), .int .i64 0]) ?_ 1 _ rfl; (with_reducible repeat (first | refine blk_drewN ?_ _ | refine blk_drew ?_ | refine blk_alloc ?_ _)); refine blk_put (cs := #[.int .i64 0, .int .i64 0]) ?_ 0 _ rfl; (with_reducible repeat (first | refine blk_drewN ?_ _ | refine blk_drew ?_ | refine blk_alloc ?_ _)); exact BK117.out) hb); have n3_ := Aside0.mk (below_step (by repeat (first | (with_reducible first | exact HB.out | apply below_alloc | apply pw_below_drewN | apply below_drew1 | refine below_set ?_ GE113.out | refine below_set ?_ GE114.out | refine below_set ?_ GE117.out) | exact HB.out)) hb); clear BK113; clear BK114; clear BK117; clear HB; have BK113 := n0_; have BK114 := n1_; have BK117 := n2_; have HB := n3_; clear n0_ n1_ n2_ n3_; (try clear hb); (try clear hb2); (try clear hk); (try clear hi); have hnb63 := NB114_113.out; have hnc63 := NB113_114.out; have hcz64_0 : w62.cell? ⟨gb114, 0, none⟩ = some (.int .u64 x8_1) := (blk_cell BK114.out 0).trans rfl; have hcz64_1 : w62.cell? ⟨gb114, 1, none⟩ = some (.int .i64 x115001_2) := (blk_cell BK114.out 1).trans rfl; have hfz64_0 := blk_frozen BK114.out 0; have hfz64_1 := blk_frozen BK114.out 1))
              go_roundg k2
              case measure => have := HK1.out; have := HK2.out; omega
              case rel => exact ⟨(wrap64 (x31_2 + 1)), (wrap64 (x115001_2 + t118)), (by first | rfl | (simp; done) | (simp [*]; done)), H', ⟨by have := HK1.out; have := HK2.out; omega⟩, ⟨by (with_reducible repeat (first | refine blk_drewN ?_ _ | refine blk_drew ?_ | refine blk_alloc ?_ _)); refine blk_far ?_ NB113_114.out _; (with_reducible repeat (first | refine blk_drewN ?_ _ | refine blk_drew ?_ | refine blk_alloc ?_ _)); exact BK113.out⟩, ⟨by (with_reducible repeat (first | refine blk_drewN ?_ _ | refine blk_drew ?_ | refine blk_alloc ?_ _)); refine blk_put (cs := #[.int .u64 x8_1, .int .i64 x115001_2]) ?_ 1 _ rfl; (with_reducible repeat (first | refine blk_drewN ?_ _ | refine blk_drew ?_ | refine blk_alloc ?_ _)); exact BK114.out⟩, ⟨by repeat (first | (with_reducible first | exact HB.out | apply below_alloc | apply pw_below_drewN | apply below_drew1 | refine below_set ?_ GE113.out | refine below_set ?_ GE114.out | refine below_set ?_ GE117.out) | exact HB.out)⟩⟩
           ·rw [if_neg c18] at H
            exact absurd H (by simp)
          ·rw [if_neg c16] at H
           exact absurd H (by simp)
         ·rw [if_neg c15] at H
          exact absurd H (by simp)
        ·rw [if_neg c14] at H
         have c14b0 : decide (x31_2 < (l0.length : Int)) = false := decide_eq_false c14
         clear c14
         obtain ⟨ji65, hji65⟩ : ∃ j_ : Int, (mn a1 64) = j_ := ⟨_, rfl⟩
         replace H : (if x115001_2 ≤ (ji65) then ((quota_choice_better.f x8_1 x115001_2 x114000_1 x114001_1).bind fun t115 => (if t115 = true then (quota_Fullest.l0 k2 l0 a1 a2 (IntKind.u64.wrap (x8_1 + 1)) x8_1 x115001_2) else (quota_Fullest.l0 k2 l0 a1 a2 (IntKind.u64.wrap (x8_1 + 1)) x114000_1 x114001_1))) else (quota_Fullest.l0 k2 l0 a1 a2 (IntKind.u64.wrap (x8_1 + 1)) x114000_1 x114001_1)) = some r := by first | (rw [hji65] at H; exact H) | (simp only [hji65] at H ⊢; exact H)
         have hji65_ : (if 64 < a1 then 64 else a1) = ji65 := hji65
         by_cases c66 : x115001_2 ≤ (ji65)
         ·rw [if_pos c66] at H
          have c66b0 : decide (x115001_2 ≤ (ji65)) = true := decide_eq_true c66
          clear c66
          replace H := Option.bind_eq_some_iff.mp H
          obtain ⟨t115, A670, H⟩ := H
          replace H : (if t115 = true then (quota_Fullest.l0 k2 l0 a1 a2 (IntKind.u64.wrap (x8_1 + 1)) x8_1 x115001_2) else (quota_Fullest.l0 k2 l0 a1 a2 (IntKind.u64.wrap (x8_1 + 1)) x114000_1 x114001_1)) = some r := H
          have A67 := Aside0.mk A670
          clear A670
          by_cases c68 : t115 = true
          ·subst c68
           have H1 : (quota_Fullest.l0 k2 l0 a1 a2 (IntKind.u64.wrap (x8_1 + 1)) x8_1 x115001_2) = some r := by rw [if_pos rfl] at H; exact H
           clear H
           have H := H1
           clear H1
           have H' := Aside0.mk H
           clear H
           have hnb69 := NB114_113.out
           have hnc69 := NB113_114.out
           have hcz70_0 : wr.cell? ⟨gb114, 0, none⟩ = some (.int .u64 x8_1) := (blk_cell BK114.out 0).trans rfl
           have hcz70_1 : wr.cell? ⟨gb114, 1, none⟩ = some (.int .i64 x115001_2) := (blk_cell BK114.out 1).trans rfl
           have hfz70_0 := blk_frozen BK114.out 0
           have hfz70_1 := blk_frozen BK114.out 1
           have hcz71_0 : wr.cell? ⟨gb113, 0, none⟩ = some (.int .u64 x114000_1) := (blk_cell BK113.out 0).trans rfl
           have hcz71_1 : wr.cell? ⟨gb113, 1, none⟩ = some (.int .i64 x114001_1) := (blk_cell BK113.out 1).trans rfl
           have hfz71_0 := blk_frozen BK113.out 0
           have hfz71_1 := blk_frozen BK113.out 1
           go_wp2_with (first | (go_at_call 14; (with_reducible refine (quota_choice_better.calls x8_1 x115001_2 x114000_1 x114001_1 true _ A67.out).mono ?_); rintro e w72 ⟨rfl, hb⟩; have n0_ := Aside0.mk (blk_below (g := gb113) (o := .cells #[.int .u64 x114000_1, .int .i64 x114001_1] 38 (0, 0)) (by (with_reducible repeat (first | refine blk_drewN ?_ _ | refine blk_drew ?_ | refine blk_alloc ?_ _)); exact BK113.out) hb); have n1_ := Aside0.mk (blk_below (g := gb114) (o := .cells #[.int .u64 x8_1, .int .i64 x115001_2] 38 (0, 0)) (by (with_reducible repeat (first | refine blk_drewN ?_ _ | refine blk_drew ?_ | refine blk_alloc ?_ _)); exact BK114.out) hb); have n2_ := Aside0.mk (below_step (by repeat (first | (with_reducible first | exact HB.out | apply below_alloc | apply pw_below_drewN | apply below_drew1 | refine below_set ?_ GE113.out | refine below_set ?_ GE114.out) | exact HB.out)) hb); clear BK113; clear BK114; clear HB; have BK113 := n0_; have BK114 := n1_; have HB := n2_; clear n0_ n1_ n2_; (try clear hb); (try clear hb2); (try clear hk); (try clear hi); have hcz73_0 : w72.cell? ⟨gb114, 0, none⟩ = some (.int .u64 x8_1) := (blk_cell BK114.out 0).trans rfl; have hcz73_1 : w72.cell? ⟨gb114, 1, none⟩ = some (.int .i64 x115001_2) := (blk_cell BK114.out 1).trans rfl; have hfz73_0 := blk_frozen BK114.out 0; have hfz73_1 := blk_frozen BK114.out 1; have hcz74_0 : w72.cell? ⟨gb113, 0, none⟩ = some (.int .u64 x114000_1) := (blk_cell BK113.out 0).trans rfl; have hcz74_1 : w72.cell? ⟨gb113, 1, none⟩ = some (.int .i64 x114001_1) := (blk_cell BK113.out 1).trans rfl; have hfz74_0 := blk_frozen BK113.out 0; have hfz74_1 := blk_frozen BK113.out 1))
           go_roundg k2
           case measure => have := HK1.out; have := HK2.out; omega
           case rel => exact ⟨(IntKind.u64.wrap (x8_1 + 1)), (x8_1), (x115001_2), (by first | rfl | (simp; done) | (simp [*]; done)), H', ⟨by have := HK1.out; have := HK2.out; omega⟩, ⟨by (with_reducible repeat (first | refine blk_drewN ?_ _ | refine blk_drew ?_ | refine blk_alloc ?_ _)); refine blk_put (cs := #[.int .u64 x8_1, .int .i64 x114001_1]) ?_ 1 _ rfl; (with_reducible repeat (first | refine blk_drewN ?_ _ | refine blk_drew ?_ | refine blk_alloc ?_ _)); refine blk_put (cs := #[.int .u64 x114000_1, .int .i64 x114001_1]) ?_ 0 _ rfl; (with_reducible repeat (first | refine blk_drewN ?_ _ | refine blk_drew ?_ | refine blk_alloc ?_ _)); exact BK113.out⟩, ⟨by repeat (first | (with_reducible first | exact HB.out | apply below_alloc | apply pw_below_drewN | apply below_drew1 | refine below_set ?_ GE113.out | refine below_set ?_ GE114.out) | exact HB.out)⟩⟩
          ·replace c68 := Bool.eq_false_iff.mpr c68
           subst c68
           have H1 : (quota_Fullest.l0 k2 l0 a1 a2 (IntKind.u64.wrap (x8_1 + 1)) x114000_1 x114001_1) = some r := by rw [if_neg (show ¬ (false = true) by decide)] at H; exact H
           clear H
           have H := H1
           clear H1
           have H' := Aside0.mk H
           clear H
           have hnb75 := NB114_113.out
           have hnc75 := NB113_114.out
           have hcz76_0 : wr.cell? ⟨gb114, 0, none⟩ = some (.int .u64 x8_1) := (blk_cell BK114.out 0).trans rfl
           have hcz76_1 : wr.cell? ⟨gb114, 1, none⟩ = some (.int .i64 x115001_2) := (blk_cell BK114.out 1).trans rfl
           have hfz76_0 := blk_frozen BK114.out 0
           have hfz76_1 := blk_frozen BK114.out 1
           have hcz77_0 : wr.cell? ⟨gb113, 0, none⟩ = some (.int .u64 x114000_1) := (blk_cell BK113.out 0).trans rfl
           have hcz77_1 : wr.cell? ⟨gb113, 1, none⟩ = some (.int .i64 x114001_1) := (blk_cell BK113.out 1).trans rfl
           have hfz77_0 := blk_frozen BK113.out 0
           have hfz77_1 := blk_frozen BK113.out 1
           go_wp2_with (first | (go_at_call 14; (with_reducible refine (quota_choice_better.calls x8_1 x115001_2 x114000_1 x114001_1 false _ A67.out).mono ?_); rintro e w78 ⟨rfl, hb⟩; have n0_ := Aside0.mk (blk_below (g := gb113) (o := .cells #[.int .u64 x114000_1, .int .i64 x114001_1] 38 (0, 0)) (by (with_reducible repeat (first | refine blk_drewN ?_ _ | refine blk_drew ?_ | refine blk_alloc ?_ _)); exact BK113.out) hb); have n1_ := Aside0.mk (blk_below (g := gb114) (o := .cells #[.int .u64 x8_1, .int .i64 x115001_2] 38 (0, 0)) (by (with_reducible repeat (first | refine blk_drewN ?_ _ | refine blk_drew ?_ | refine blk_alloc ?_ _)); exact BK114.out) hb); have n2_ := Aside0.mk (below_step (by repeat (first | (with_reducible first | exact HB.out | apply below_alloc | apply pw_below_drewN | apply below_drew1 | refine below_set ?_ GE113.out | refine below_set ?_ GE114.out) | exact HB.out)) hb); clear BK113; clear BK114; clear HB; have BK113 := n0_; have BK114 := n1_; have HB := n2_; clear n0_ n1_ n2_; (try clear hb); (try clear hb2); (try clear hk); (try clear hi)))
           go_roundg k2
           case measure => have := HK1.out; have := HK2.out; omega
           case rel => exact ⟨(IntKind.u64.wrap (x8_1 + 1)), (x114000_1), (x114001_1), (by first | rfl | (simp; done) | (simp [*]; done)), H', ⟨by have := HK1.out; have := HK2.out; omega⟩, ⟨by (with_reducible repeat (first | refine blk_drewN ?_ _ | refine blk_drew ?_ | refine blk_alloc ?_ _)); exact BK113.out⟩, ⟨by repeat (first | (with_reducible first | exact HB.out | apply below_alloc | apply pw_below_drewN | apply below_drew1 | refine below_set ?_ GE113.out | refine below_set ?_ GE114.out) | exact HB.out)⟩⟩
         ·rw [if_neg c66] at H
          have c66b0 : decide (x115001_2 ≤ (ji65)) = false := decide_eq_false c66
          clear c66
          have H' := Aside0.mk H
          clear H
          have hnb79 := NB114_113.out
          have hnc79 := NB113_114.out
          have hcz80_0 : wr.cell? ⟨gb114, 0, none⟩ = some (.int .u64 x8_1) := (blk_cell BK114.out 0).trans rfl
          have hcz80_1 : wr.cell? ⟨gb114, 1, none⟩ = some (.int .i64 x115001_2) := (blk_cell BK114.out 1).trans rfl
          have hfz80_0 := blk_frozen BK114.out 0
          have hfz80_1 := blk_frozen BK114.out 1
          go_wp2
          go_roundg k2
          case measure => have := HK1.out; have := HK2.out; omega
          case rel => exact ⟨(IntKind.u64.wrap (x8_1 + 1)), (x114000_1), (x114001_1), (by first | rfl | (simp; done) | (simp [*]; done)), H', ⟨by have := HK1.out; have := HK2.out; omega⟩, ⟨by (with_reducible repeat (first | refine blk_drewN ?_ _ | refine blk_drew ?_ | refine blk_alloc ?_ _)); exact BK113.out⟩, ⟨by repeat (first | (with_reducible first | exact HB.out | apply below_alloc | apply pw_below_drewN | apply below_drew1 | refine below_set ?_ GE113.out | refine below_set ?_ GE114.out) | exact HB.out)⟩⟩
     ·rw [if_neg c10] at H
      have c10b0 : ((ji9) == 0) = false := beq_eq_false_iff_ne.mpr c10
      have c10b1 : ((ji9) != 0) = true := bne_iff_ne.mpr c10
      have H' := Aside0.mk H
      clear H
      go_wp2
      go_loopg [13, 67] k1 (fun kq v13 v67 w' => ∃ (x13_2 : List Int) (x67_2 : Int), v67 = .int .i64 x67_2 ∧ Aside0 (quota_Fullest.l2 kq x13_2 (l0.length : Int) x67_2 x114000_1 x114001_1 = some r) ∧ Aside0 (kq ≤ k1) ∧ Aside0 (Kd.R (Kd.int .i64) 3 w' w.heap.size (fun _ => True) v13 x13_2) ∧ Aside0 (w'.heap[gb113]? = some (.cells #[.int .u64 x114000_1, .int .i64 x114001_1] 38 (0, 0))) ∧ Aside0 (Below w.heap.size w w'))
      case atStart => exact ⟨(([] : List Int)), (0), (by first | rfl | (simp; done) | (simp [*]; done)), H', ⟨Nat.le_refl _⟩, ⟨by first | exact Kd.R_nil _ _ _ _ _ | exact Kd.N_nil _ _ _ _ _ | exact Kd.V_nil _ _ _ _ _ | exact Kd.Q_nil _ _ _ _ _ | exact Kd.S_nil _ _ _ _ _⟩, ⟨by (with_reducible repeat (first | refine blk_drewN ?_ _ | refine blk_drew ?_ | refine blk_alloc ?_ _)); exact BK113.out⟩, ⟨by repeat (first | (with_reducible first | exact HB.out | apply below_alloc | apply pw_below_drewN | apply below_drew1 | refine below_set ?_ GE113.out) | exact HB.out)⟩⟩
      case round =>
       clear H'
       try clear c1
       try clear p1
       try clear q1
       try clear hx1
       try clear c2
       try clear p2
       try clear c3
       try clear c4
       try clear c4b0
       try clear c4b1
       try clear c5
       try clear c6
       try clear p6
       try clear c7
       try clear c8
       try clear c8b0
       try clear c8b1
       try clear c10
       try clear c10b0
       try clear c10b1
       try clear p11
       try clear q11
       try clear hx11
       try clear c12
       try clear c13
       try clear c14
       try clear c14b0
       try clear c15
       try clear c15b0
       try clear c16
       try clear c16b0
       try clear c18
       try clear c18b0
       try clear c18b1
       try clear c20
       try clear c20b0
       try clear c20b1
       try clear c22
       try clear c23
       try clear c26
       try clear c26b0
       try clear c26b1
       try clear c28
       try clear c28b0
       try clear c30
       try clear c32
       try clear c33
       try clear c36
       try clear c43
       try clear c44
       try clear c47
       try clear c52
       try clear c53
       try clear c56
       try clear c59
       try clear c60
       try clear c63
       try clear p64
       try clear c66
       try clear c66b0
       try clear c68
       try clear c69
       try clear c75
       try clear c79
       try clear hcz13_0
       try clear hcz13_1
       try clear hcz24_0
       try clear hcz24_1
       try clear hcz34_0
       try clear hcz34_1
       try clear hcz37_0
       try clear hcz37_1
       try clear hcz38_0
       try clear hcz38_1
       try clear hcz40_0
       try clear hcz40_1
       try clear hcz41_0
       try clear hcz41_1
       try clear hcz45_0
       try clear hcz45_1
       try clear hcz48_0
       try clear hcz48_1
       try clear hcz49_0
       try clear hcz49_1
       try clear hcz54_0
       try clear hcz54_1
       try clear hcz57_0
       try clear hcz57_1
       try clear hcz61_0
       try clear hcz61_1
       try clear hcz64_0
       try clear hcz64_1
       try clear hcz6_0
       try clear hcz6_1
       try clear hcz70_0
       try clear hcz70_1
       try clear hcz71_0
       try clear hcz71_1
       try clear hcz73_0
       try clear hcz73_1
       try clear hcz74_0
       try clear hcz74_1
       try clear hcz76_0
       try clear hcz76_1
       try clear hcz77_0
       try clear hcz77_1
       try clear hcz80_0
       try clear hcz80_1
       try clear hfz13_0
       try clear hfz13_1
       try clear hfz24_0
       try clear hfz24_1
       try clear hfz34_0
       try clear hfz34_1
       try clear hfz37_0
       try clear hfz37_1
       try clear hfz38_0
       try clear hfz38_1
       try clear hfz40_0
       try clear hfz40_1
       try clear hfz41_0
       try clear hfz41_1
       try clear hfz45_0
       try clear hfz45_1
       try clear hfz48_0
       try clear hfz48_1
       try clear hfz49_0
       try clear hfz49_1
       try clear hfz54_0
       try clear hfz54_1
       try clear hfz57_0
       try clear hfz57_1
       try clear hfz61_0
       try clear hfz61_1
       try clear hfz64_0
       try clear hfz64_1
       try clear hfz6_0
       try clear hfz6_1
       try clear hfz70_0
       try clear hfz70_1
       try clear hfz71_0
       try clear hfz71_1
       try clear hfz73_0
       try clear hfz73_1
       try clear hfz74_0
       try clear hfz74_1
       try clear hfz76_0
       try clear hfz76_1
       try clear hfz77_0
       try clear hfz77_1
       try clear hfz80_0
       try clear hfz80_1
       try clear hx116_0
       try clear hx116_1
       try clear p116
       try clear p2
       try clear q116
       obtain ⟨x13_2, x67_2, rfl, HA, HK2, HO_13, BK113, HB⟩ := hrel
       cases gk with
       | zero => exact absurd HA.out (by simp [quota_Fullest.l2])
       | succ k2 =>
        have H := HA.out
        clear HA
        simp only [quota_Fullest.l2] at H
        by_cases c81 : x67_2 < (l0.length : Int)
        ·rw [if_pos c81] at H
         have c81b0 : decide (x67_2 < (l0.length : Int)) = true := decide_eq_true c81
         clear c81
         obtain ⟨ji82, hji82⟩ : ∃ j_ : Int, (IntKind.u64.wrap (x67_2)) = j_ := ⟨_, rfl⟩
         replace H : (if 0 ≤ (ji82) then (if (Go.bits .and .u64 (shr .u64 x114000_1 (ji82)) 1) = 1 then (if x13_2.length < 17592186044416 then (quota_Fullest.l2 k2 (x13_2 ++ [x67_2]) (l0.length : Int) (wrap64 (x67_2 + 1)) x114000_1 x114001_1) else (none)) else (quota_Fullest.l2 k2 x13_2 (l0.length : Int) (wrap64 (x67_2 + 1)) x114000_1 x114001_1)) else (none)) = some r := by first | (rw [hji82] at H; exact H) | (simp only [hji82] at H ⊢; exact H)
         by_cases c83 : 0 ≤ (ji82)
         ·rw [if_pos c83] at H
          have c83b0 := eq_true c83
          have c83b1 : decide (0 ≤ (ji82)) = true := decide_eq_true c83
          clear c83
          obtain ⟨ji84, hji84⟩ : ∃ j_ : Int, (shr .u64 x114000_1 (ji82)) = j_ := ⟨_, rfl⟩
          replace H : (if (Go.bits .and .u64 (ji84) 1) = 1 then (if x13_2.length < 17592186044416 then (quota_Fullest.l2 k2 (x13_2 ++ [x67_2]) (l0.length : Int) (wrap64 (x67_2 + 1)) x114000_1 x114001_1) else (none)) else (quota_Fullest.l2 k2 x13_2 (l0.length : Int) (wrap64 (x67_2 + 1)) x114000_1 x114001_1)) = some r := by first | (rw [hji84] at H; exact H) | (simp only [hji84] at H ⊢; exact H)
          have hji84_ : (x114000_1 / 2 ^ min (ji82).toNat 64) = ji84 := hji84
          have hji84z : (ji82) ≤ 64 → (x114000_1 / 2 ^ (ji82).toNat) = ji84 := shr_small hji84
          by_cases c85 : (Go.bits .and .u64 (ji84) 1) = 1
          ·rw [if_pos c85] at H
           have c85b0 : ((Go.bits .and .u64 (ji84) 1) == 1) = true := beq_iff_eq.mpr c85
           have c85b1 : ((Go.bits .and .u64 (ji84) 1) != 1) = false := bne_eq_false_iff_eq.mpr c85
           clear c85
           by_cases c86 : x13_2.length < 17592186044416
           ·rw [if_pos c86] at H
            have LMc86 := Aside0.mk c86
            clear c86
            obtain ⟨y120, hy120⟩ : ∃ y_ : List Int, y_ = (x13_2 ++ [x67_2]) := ⟨_, rfl⟩
            replace H : (quota_Fullest.l2 k2 y120 (l0.length : Int) (wrap64 (x67_2 + 1)) x114000_1 x114001_1) = some r := by first | (rw [hy120]; with_reducible exact H) | (have H2_ := (Option.bind_some _ _).symm.trans H; rw [hy120]; with_reducible exact H2_) | (have H2_ := (Option.bind_some _ _).symm.trans H; with_reducible exact H2_) | with_reducible exact H | (rw [hy120]; exact H) | exact H
            have Ny120 := Aside0.mk hy120
            clear hy120
            have H' := Aside0.mk H
            clear H
            have hcz87_0 : wr.cell? ⟨gb113, 0, none⟩ = some (.int .u64 x114000_1) := (blk_cell BK113.out 0).trans rfl
            have hcz87_1 : wr.cell? ⟨gb113, 1, none⟩ = some (.int .i64 x114001_1) := (blk_cell BK113.out 1).trans rfl
            have hfz87_0 := blk_frozen BK113.out 0
            have hfz87_1 := blk_frozen BK113.out 1
            go_wp2_with (first | ((with_reducible refine gate_builtin (b := .append) (xs := #[.tmp 77, .tmp 79]) rfl ?_); at_builtin; refine Kd.R_append (Kd.int .i64) (w0 := w) w.heap.size rfl (.tmp 77) (.tmp 79) 25 3 (.int .i64 0) 8 rfl Try.underlying25 info3 rfl (by decide) (by omega) u13 x13_2 x67_2 [.int .i64 x67_2] (fun _ => True) (fun _ => False) rfl rfl ?aP (fun _ hk => hk.elim) ?aF ?aO ?aB ?aS ?aL ?_; (case aP => exact rfl); (case aB => exact (by repeat (first | (with_reducible first | exact HB.out | apply below_alloc | apply pw_below_drewN | apply below_drew1 | refine below_set ?_ GE113.out) | exact HB.out))); (case aF => exact (fun _ _ => trivial)); (case aO => exact (by (with_reducible repeat (first | apply Kd.R_alloc | apply Kd.R_drewN | apply Kd.R_drew)); exact HO_13.out)); (case aS => exact (below_size (by repeat (first | (with_reducible first | exact HB.out | apply below_alloc | apply pw_below_drewN | apply below_drew1 | refine below_set ?_ GE113.out) | exact HB.out)))); (case aL => have := LMc86.out; omega); intro v121 w88 ho hb hg hat; rw [← Ny120.out] at ho; have n0_ := Aside0.mk (blk_grown (g := gb113) (o := .cells #[.int .u64 x114000_1, .int .i64 x114001_1] 38 (0, 0)) (by (with_reducible repeat (first | refine blk_drewN ?_ _ | refine blk_drew ?_ | refine blk_alloc ?_ _)); exact BK113.out) hg (Kd.R_ne HO_13.out BK113.out (by decide))); have n1_ := Aside0.mk (hb); have n2_ := Aside0.mk (ho); clear BK113; clear HB; clear HO_13; have BK113 := n0_; have HB := n1_; have HO122 := n2_; clear n0_ n1_ n2_; clear ho hb hg hat))
            go_roundg k2
            case measure => have := HK1.out; have := HK2.out; omega
            case rel => exact ⟨(y120), (wrap64 (x67_2 + 1)), (by first | rfl | (simp; done) | (simp [*]; done)), H', ⟨by have := HK1.out; have := HK2.out; omega⟩, ⟨by (with_reducible repeat (first | apply Kd.R_alloc | apply Kd.R_drewN | apply Kd.R_drew)); exact HO122.out⟩, ⟨by (with_reducible repeat (first | refine blk_drewN ?_ _ | refine blk_drew ?_ | refine blk_alloc ?_ _)); exact BK113.out⟩, ⟨by repeat (first | (with_reducible first | exact HB.out | apply below_alloc | apply pw_below_drewN | apply below_drew1 | refine below_set ?_ GE113.out) | exact HB.out)⟩⟩
           ·rw [if_neg c86] at H
            exact absurd H (by simp)
          ·rw [if_neg c85] at H
           have c85b0 : ((Go.bits .and .u64 (ji84) 1) == 1) = false := beq_eq_false_iff_ne.mpr c85
           have c85b1 : ((Go.bits .and .u64 (ji84) 1) != 1) = true := bne_iff_ne.mpr c85
           have H' := Aside0.mk H
           clear H
           have hcz89_0 : wr.cell? ⟨gb113, 0, none⟩ = some (.int .u64 x114000_1) := (blk_cell BK113.out 0).trans rfl
           have hcz89_1 : wr.cell? ⟨gb113, 1, none⟩ = some (.int .i64 x114001_1) := (blk_cell BK113.out 1).trans rfl
           have hfz89_0 := blk_frozen BK113.out 0
           have hfz89_1 := blk_frozen BK113.out 1
           go_wp2
           go_roundg k2
           case measure => have := HK1.out; have := HK2.out; omega
           case rel => exact ⟨(x13_2), (wrap64 (x67_2 + 1)), (by first | rfl | (simp; done) | (simp [*]; done)), H', ⟨by have := HK1.out; have := HK2.out; omega⟩, ⟨by (with_reducible repeat (first | apply Kd.R_alloc | apply Kd.R_drewN | apply Kd.R_drew)); exact HO_13.out⟩, ⟨by (with_reducible repeat (first | refine blk_drewN ?_ _ | refine blk_drew ?_ | refine blk_alloc ?_ _)); exact BK113.out⟩, ⟨by repeat (first | (with_reducible first | exact HB.out | apply below_alloc | apply pw_below_drewN | apply below_drew1 | refine below_set ?_ GE113.out) | exact HB.out)⟩⟩
         ·rw [if_neg c83] at H
          exact absurd H (by simp)
        ·rw [if_neg c81] at H
         have c81b0 : decide (x67_2 < (l0.length : Int)) = false := decide_eq_false c81
         clear c81
         obtain rfl := Option.some.inj H
         go_wp2
         go_ret
         exact ⟨_, by first | rfl | (simp [errW_none, errW_some] <;> rfl) | (simp only [← hji7, ← hji9]; first | rfl | (simp [errW_none, errW_some] <;> rfl)) | (simp [*, errW_none, errW_some] <;> rfl), by (with_reducible repeat (first | apply Kd.R_alloc | apply Kd.R_drewN | apply Kd.R_drew)); exact HO_13.out, by repeat (first | (with_reducible first | exact HB.out | apply below_alloc | apply pw_below_drewN | apply below_drew1 | refine below_set ?_ GE113.out) | exact HB.out)⟩
    ·rw [if_neg c8] at H
     exact absurd H (by simp)
end Go.Proofs.Ytpcpllabegfdjaa.P
