-- Cut by a program of this session (wip/pr/pack.py) to what one claim needs.
import Derived.Test.YtdmbibjgiehboaaAPx0
import Derived.Test.YtdmbibjgiehboaaAPx4
namespace Go.Proofs.Ytdmbibjgiehboaa.P
open Go.RowKit Go.Proofs.YtdmbibjgiehboaaW.PrintWords Go.Proofs.YtdmbibjgiehboaaW.PrintLast Go.Proofs.YtdmbibjgiehboaaW.PrintMore
attribute [local go_sem] max2_int min2_int max_two min_two max_three min_three max_four min_four
set_option linter.unusedVariables false
set_option linter.unusedSimpArgs false
def almshouselaw17_may.l0 : Nat → List (S36) → Int → List (S36) → Int → Int → Option (Bool)
 | 0, _, _, _, _, _ => none
 | k + 1, x0, x1, x7, x8, x9 => if x9 < x8 then (if 0 ≤ x9 then (if x9 < (x7.length : Int) then (if ((rd_T36 x7 x9).f2 = true) then (almshouselaw17_may.l0 k x0 x1 x7 x8 (wrap64 (x9 + 1))) else ((almshouseref08_Right.f ((rd_T36 x7 x9).f3.f0) ((rd_T36 x7 x9).f3.f1) ((rd_T36 x7 x9).f3.f2) ((rd_T36 x7 x9).f3.f3) ((rd_T36 x7 x9).f3.f4) ((rd_T36 x7 x9).f3.f5)).bind fun t196 => (if t196 = true then (almshouselaw17_may.l0 k x0 x1 x7 x8 (wrap64 (x9 + 1))) else (some false)))) else (none)) else (none)) else (if (x0.length : Int) ≤ 60 then (some (decide (x1 ≤ 64))) else (some false))
def almshouselaw17_may.f (k : Nat) (l0 : List (S36)) (a1 : Int) : Option (Bool) := almshouselaw17_may.l0 k l0 a1 l0 (l0.length : Int) 0
set_option maxHeartbeats 8000000 in
set_option maxRecDepth 100000 in
theorem almshouselaw17_may.calls (k : Nat) (A0 : Option Addr) (c0 : Nat) (l0 : List (S36)) (a1 : Int) (r : Bool) (w : World) (hr0 : Kd.C k36 w A0 l0.length l0) (hc0 : l0.length ≤ c0) (h : almshouselaw17_may.f k l0 a1 = some r) :
  Calls Try.prog 7 #[.slice A0 l0.length c0, .int .i64 a1] w fun e w' => e = .returned (.bool r) ∧ Below w.heap.size w w' := by
 have hu36 := Try.underlying36
 have hu34 := Try.underlying34
 have HR0 := Aside0.mk hr0
 have HC0 := Aside0.mk hc0
 clear hr0 hc0
 have HB := Aside0.mk (Below.refl w.heap.size w)
 have H : (almshouselaw17_may.l0 k l0 a1 l0 (l0.length : Int) 0) = some r := h
 clear h
 have H' := Aside0.mk H
 clear H
 go_enter Try.func7, Try.ntmps7
 go_wp2
 go_loopg [9] k (fun kq v9 w' => ∃ (x9_1 : Int), v9 = .int .i64 x9_1 ∧ Aside0 (almshouselaw17_may.l0 kq l0 a1 l0 (l0.length : Int) x9_1 = some r) ∧ Aside0 (kq ≤ k) ∧ Aside0 (Below w.heap.size w w'))
 case atStart => exact ⟨(0), (by first | rfl | (simp; done) | (simp [*]; done)), H', ⟨Nat.le_refl _⟩, ⟨by repeat (first | (with_reducible first | exact HB.out | apply below_alloc | apply pw_below_drewN | apply below_drew1) | exact HB.out)⟩⟩
 case round =>
  clear H'
  try clear p2
  obtain ⟨x9_1, rfl, HA, HK1, HB⟩ := hrel
  cases gk with
  | zero => exact absurd HA.out (by simp [almshouselaw17_may.l0])
  | succ k1 =>
   have H := HA.out
   clear HA
   simp only [almshouselaw17_may.l0] at H
   by_cases c3 : x9_1 < (l0.length : Int)
   ·rw [if_pos c3] at H
    have c3b0 : decide (x9_1 < (l0.length : Int)) = true := decide_eq_true c3
    clear c3
    by_cases c4 : 0 ≤ x9_1
    ·rw [if_pos c4] at H
     have c4b0 : decide (0 ≤ x9_1) = true := decide_eq_true c4
     clear c4
     by_cases c5 : x9_1 < (l0.length : Int)
     ·rw [if_pos c5] at H
      have c5b0 : decide (x9_1 < (l0.length : Int)) = true := decide_eq_true c5
      clear c5
      obtain ⟨bq6, hbq6⟩ : ∃ b_ : Bool, b_ = ((rd_T36 l0 x9_1).f2) := ⟨_, rfl⟩
      replace H : (if (bq6 = true) then (almshouselaw17_may.l0 k1 l0 a1 l0 (l0.length : Int) (wrap64 (x9_1 + 1))) else ((almshouseref08_Right.f ((rd_T36 l0 x9_1).f3.f0) ((rd_T36 l0 x9_1).f3.f1) ((rd_T36 l0 x9_1).f3.f2) ((rd_T36 l0 x9_1).f3.f3) ((rd_T36 l0 x9_1).f3.f4) ((rd_T36 l0 x9_1).f3.f5)).bind fun t196 => (if t196 = true then (almshouselaw17_may.l0 k1 l0 a1 l0 (l0.length : Int) (wrap64 (x9_1 + 1))) else (some false)))) = some r := by rw [← hbq6] at H; exact H
      have Nbq6 := Aside0.mk hbq6
      clear hbq6
      by_cases c7 : (bq6 = true)
      ·subst c7
       have H1 : (almshouselaw17_may.l0 k1 l0 a1 l0 (l0.length : Int) (wrap64 (x9_1 + 1))) = some r := by rw [if_pos rfl] at H; exact H
       clear H
       have H := H1
       clear H1
       have H' := Aside0.mk H
       clear H
       have p194 : 0 ≤ (x9_1 : Int) := of_decide_eq_true (by first | (with_reducible assumption) | assumption)
       have q194 : x9_1 < (l0.length : Int) := of_decide_eq_true (by first | (with_reducible assumption) | assumption)
       obtain ⟨ad194, e194, hx194_0, hx194_1, hx194_2, hx194_3, hx194_4, hx194_5, hx194_6, hx194_7, hx194_8, hx194_9⟩ := at_T36 HR0.out x9_1 p194 q194
       (try rw [← Nbq6.out] at hx194_2)
       (try rw [← Nbq6.out] at hx194_8)
       cases e194
       replace hx194_0 := (HB.out.cell (World.block_lt_of_cell? w _ hx194_0)).trans hx194_0
       replace hx194_1 := (HB.out.cell (World.block_lt_of_cell? w _ hx194_1)).trans hx194_1
       replace hx194_2 := (HB.out.cell (World.block_lt_of_cell? w _ hx194_2)).trans hx194_2
       replace hx194_3 := (HB.out.cell (World.block_lt_of_cell? w _ hx194_3)).trans hx194_3
       replace hx194_4 := (HB.out.cell (World.block_lt_of_cell? w _ hx194_4)).trans hx194_4
       replace hx194_5 := (HB.out.cell (World.block_lt_of_cell? w _ hx194_5)).trans hx194_5
       replace hx194_6 := (HB.out.cell (World.block_lt_of_cell? w _ hx194_6)).trans hx194_6
       replace hx194_7 := (HB.out.cell (World.block_lt_of_cell? w _ hx194_7)).trans hx194_7
       replace hx194_8 := (HB.out.cell (World.block_lt_of_cell? w _ hx194_8)).trans hx194_8
       replace hx194_9 := (HB.out.cell (World.block_lt_of_cell? w _ hx194_9)).trans hx194_9
       replace p194 := eq_true p194
       replace q194 := eq_true q194
       go_wp2_with (first | ((with_reducible refine gate_dst (N := 6) rfl ?_); refine box_event ?hg (N := 6) ?hd (cs := #[.int .i64 0, .int .i64 0, .bool false, .int .i64 0, .int .i64 0, .int .i64 0, .int .i64 0, .int .i64 0, .bool false, .string (⟨#[]⟩ : ByteArray)]) (t := 36) ?hr ?_; (case hd => rfl); (case hg => rfl); (case hr => first | (go_simp; done) | (go_simp; rfl)); intro gb195 hg w8 hbox hb; have n0_ := Aside0.mk (below_step (by repeat (first | (with_reducible first | exact HB.out | apply below_alloc | apply pw_below_drewN | apply below_drew1) | exact HB.out)) hb); have n1_ := Aside0.mk (hbox); have n2_ := Aside0.mk ((by rw [hg]; exact (below_size (by repeat (first | (with_reducible first | exact HB.out | apply below_alloc | apply pw_below_drewN | apply below_drew1) | exact HB.out))) : w.heap.size ≤ gb195)); have n3_ := Aside0.mk ((by rw [hg]; exact (below_size (by repeat (first | (with_reducible first | exact HB.out | apply below_alloc | apply pw_below_drewN | apply below_drew1) | exact HB.out))) : w.heap.size ≤ gb195)); clear HB; have HB := n0_; have BK195 := n1_; have GW195 := n2_; have GE195 := n3_; clear n0_ n1_ n2_ n3_; clear hb hbox hg; have hcz9_0 : w8.cell? ⟨gb195, 0, none⟩ = some (.int .i64 0) := (blk_cell BK195.out 0).trans rfl; have hcz9_1 : w8.cell? ⟨gb195, 1, none⟩ = some (.int .i64 0) := (blk_cell BK195.out 1).trans rfl; have hcz9_2 : w8.cell? ⟨gb195, 2, none⟩ = some (.bool false) := (blk_cell BK195.out 2).trans rfl; have hcz9_3 : w8.cell? ⟨gb195, 3, none⟩ = some (.int .i64 0) := (blk_cell BK195.out 3).trans rfl; have hcz9_4 : w8.cell? ⟨gb195, 4, none⟩ = some (.int .i64 0) := (blk_cell BK195.out 4).trans rfl; have hcz9_5 : w8.cell? ⟨gb195, 5, none⟩ = some (.int .i64 0) := (blk_cell BK195.out 5).trans rfl; have hcz9_6 : w8.cell? ⟨gb195, 6, none⟩ = some (.int .i64 0) := (blk_cell BK195.out 6).trans rfl; have hcz9_7 : w8.cell? ⟨gb195, 7, none⟩ = some (.int .i64 0) := (blk_cell BK195.out 7).trans rfl; have hcz9_8 : w8.cell? ⟨gb195, 8, none⟩ = some (.bool false) := (blk_cell BK195.out 8).trans rfl; have hcz9_9 : w8.cell? ⟨gb195, 9, none⟩ = some (.string (⟨#[]⟩ : ByteArray)) := (blk_cell BK195.out 9).trans rfl; have hfz9_0 := blk_frozen BK195.out 0; have hfz9_1 := blk_frozen BK195.out 1; have hfz9_2 := blk_frozen BK195.out 2; have hfz9_3 := blk_frozen BK195.out 3; have hfz9_4 := blk_frozen BK195.out 4; have hfz9_5 := blk_frozen BK195.out 5; have hfz9_6 := blk_frozen BK195.out 6; have hfz9_7 := blk_frozen BK195.out 7; have hfz9_8 := blk_frozen BK195.out 8; have hfz9_9 := blk_frozen BK195.out 9))
       go_roundg k1
       case measure => have := HK1.out; omega
       case rel => exact ⟨(wrap64 (x9_1 + 1)), (by first | rfl | (simp; done) | (simp [*]; done)), H', ⟨by have := HK1.out; omega⟩, ⟨by repeat (first | (with_reducible first | exact HB.out | apply below_alloc | apply pw_below_drewN | apply below_drew1 | refine below_set ?_ GE195.out) | exact HB.out)⟩⟩
      ·replace c7 := Bool.eq_false_iff.mpr c7
       subst c7
       have H1 : ((almshouseref08_Right.f ((rd_T36 l0 x9_1).f3.f0) ((rd_T36 l0 x9_1).f3.f1) ((rd_T36 l0 x9_1).f3.f2) ((rd_T36 l0 x9_1).f3.f3) ((rd_T36 l0 x9_1).f3.f4) ((rd_T36 l0 x9_1).f3.f5)).bind fun t196 => (if t196 = true then (almshouselaw17_may.l0 k1 l0 a1 l0 (l0.length : Int) (wrap64 (x9_1 + 1))) else (some false))) = some r := by rw [if_neg (show ¬ (false = true) by decide)] at H; exact H
       clear H
       have H := H1
       clear H1
       replace H := Option.bind_eq_some_iff.mp H
       obtain ⟨t196, A100, H⟩ := H
       replace H : (if t196 = true then (almshouselaw17_may.l0 k1 l0 a1 l0 (l0.length : Int) (wrap64 (x9_1 + 1))) else (some false)) = some r := H
       have A10 := Aside0.mk A100
       clear A100
       by_cases c11 : t196 = true
       ·subst c11
        have H1 : (almshouselaw17_may.l0 k1 l0 a1 l0 (l0.length : Int) (wrap64 (x9_1 + 1))) = some r := by rw [if_pos rfl] at H; exact H
        clear H
        have H := H1
        clear H1
        have H' := Aside0.mk H
        clear H
        have p194 : 0 ≤ (x9_1 : Int) := of_decide_eq_true (by first | (with_reducible assumption) | assumption)
        have q194 : x9_1 < (l0.length : Int) := of_decide_eq_true (by first | (with_reducible assumption) | assumption)
        obtain ⟨ad194, e194, hx194_0, hx194_1, hx194_2, hx194_3, hx194_4, hx194_5, hx194_6, hx194_7, hx194_8, hx194_9⟩ := at_T36 HR0.out x9_1 p194 q194
        (try rw [← Nbq6.out] at hx194_2)
        (try rw [← Nbq6.out] at hx194_8)
        cases e194
        replace hx194_0 := (HB.out.cell (World.block_lt_of_cell? w _ hx194_0)).trans hx194_0
        replace hx194_1 := (HB.out.cell (World.block_lt_of_cell? w _ hx194_1)).trans hx194_1
        replace hx194_2 := (HB.out.cell (World.block_lt_of_cell? w _ hx194_2)).trans hx194_2
        replace hx194_3 := (HB.out.cell (World.block_lt_of_cell? w _ hx194_3)).trans hx194_3
        replace hx194_4 := (HB.out.cell (World.block_lt_of_cell? w _ hx194_4)).trans hx194_4
        replace hx194_5 := (HB.out.cell (World.block_lt_of_cell? w _ hx194_5)).trans hx194_5
        replace hx194_6 := (HB.out.cell (World.block_lt_of_cell? w _ hx194_6)).trans hx194_6
        replace hx194_7 := (HB.out.cell (World.block_lt_of_cell? w _ hx194_7)).trans hx194_7
        replace hx194_8 := (HB.out.cell (World.block_lt_of_cell? w _ hx194_8)).trans hx194_8
        replace hx194_9 := (HB.out.cell (World.block_lt_of_cell? w _ hx194_9)).trans hx194_9
        replace p194 := eq_true p194
        replace q194 := eq_true q194
        go_wp2_with (first | ((with_reducible refine gate_dst (N := 6) rfl ?_); refine box_event ?hg (N := 6) ?hd (cs := #[.int .i64 0, .int .i64 0, .bool false, .int .i64 0, .int .i64 0, .int .i64 0, .int .i64 0, .int .i64 0, .bool false, .string (⟨#[]⟩ : ByteArray)]) (t := 36) ?hr ?_; (case hd => rfl); (case hg => rfl); (case hr => first | (go_simp; done) | (go_simp; rfl)); intro gb195 hg w12 hbox hb; have n0_ := Aside0.mk (below_step (by repeat (first | (with_reducible first | exact HB.out | apply below_alloc | apply pw_below_drewN | apply below_drew1) | exact HB.out)) hb); have n1_ := Aside0.mk (hbox); have n2_ := Aside0.mk ((by rw [hg]; exact (below_size (by repeat (first | (with_reducible first | exact HB.out | apply below_alloc | apply pw_below_drewN | apply below_drew1) | exact HB.out))) : w.heap.size ≤ gb195)); have n3_ := Aside0.mk ((by rw [hg]; exact (below_size (by repeat (first | (with_reducible first | exact HB.out | apply below_alloc | apply pw_below_drewN | apply below_drew1) | exact HB.out))) : w.heap.size ≤ gb195)); clear HB; have HB := n0_; have BK195 := n1_; have GW195 := n2_; have GE195 := n3_; clear n0_ n1_ n2_ n3_; clear hb hbox hg; have hcz13_0 : w12.cell? ⟨gb195, 0, none⟩ = some (.int .i64 0) := (blk_cell BK195.out 0).trans rfl; have hcz13_1 : w12.cell? ⟨gb195, 1, none⟩ = some (.int .i64 0) := (blk_cell BK195.out 1).trans rfl; have hcz13_2 : w12.cell? ⟨gb195, 2, none⟩ = some (.bool false) := (blk_cell BK195.out 2).trans rfl; have hcz13_3 : w12.cell? ⟨gb195, 3, none⟩ = some (.int .i64 0) := (blk_cell BK195.out 3).trans rfl; have hcz13_4 : w12.cell? ⟨gb195, 4, none⟩ = some (.int .i64 0) := (blk_cell BK195.out 4).trans rfl; have hcz13_5 : w12.cell? ⟨gb195, 5, none⟩ = some (.int .i64 0) := (blk_cell BK195.out 5).trans rfl; have hcz13_6 : w12.cell? ⟨gb195, 6, none⟩ = some (.int .i64 0) := (blk_cell BK195.out 6).trans rfl; have hcz13_7 : w12.cell? ⟨gb195, 7, none⟩ = some (.int .i64 0) := (blk_cell BK195.out 7).trans rfl; have hcz13_8 : w12.cell? ⟨gb195, 8, none⟩ = some (.bool false) := (blk_cell BK195.out 8).trans rfl; have hcz13_9 : w12.cell? ⟨gb195, 9, none⟩ = some (.string (⟨#[]⟩ : ByteArray)) := (blk_cell BK195.out 9).trans rfl; have hfz13_0 := blk_frozen BK195.out 0; have hfz13_1 := blk_frozen BK195.out 1; have hfz13_2 := blk_frozen BK195.out 2; have hfz13_3 := blk_frozen BK195.out 3; have hfz13_4 := blk_frozen BK195.out 4; have hfz13_5 := blk_frozen BK195.out 5; have hfz13_6 := blk_frozen BK195.out 6; have hfz13_7 := blk_frozen BK195.out 7; have hfz13_8 := blk_frozen BK195.out 8; have hfz13_9 := blk_frozen BK195.out 9) | (go_at_call 16; (with_reducible refine (almshouseref08_Right.calls ((rd_T36 l0 x9_1).f3.f0) ((rd_T36 l0 x9_1).f3.f1) ((rd_T36 l0 x9_1).f3.f2) ((rd_T36 l0 x9_1).f3.f3) ((rd_T36 l0 x9_1).f3.f4) ((rd_T36 l0 x9_1).f3.f5) true _ A10.out).mono ?_); rintro e w14 ⟨rfl, hb⟩; have n0_ := Aside0.mk (blk_below (g := gb195) (o := .cells #[.int .i64 ((rd_T36 l0 x9_1).f0), .int .i64 ((rd_T36 l0 x9_1).f1), .bool false, .int .i64 ((rd_T36 l0 x9_1).f3.f0), .int .i64 ((rd_T36 l0 x9_1).f3.f1), .int .i64 ((rd_T36 l0 x9_1).f3.f2), .int .i64 ((rd_T36 l0 x9_1).f3.f3), .int .i64 ((rd_T36 l0 x9_1).f3.f4), .bool ((rd_T36 l0 x9_1).f3.f5), .string ((rd_T36 l0 x9_1).f4)] 36 (0, 0)) (by (with_reducible repeat (first | refine blk_drewN ?_ _ | refine blk_drew ?_ | refine blk_alloc ?_ _)); refine blk_put (cs := #[.int .i64 ((rd_T36 l0 x9_1).f0), .int .i64 ((rd_T36 l0 x9_1).f1), .bool false, .int .i64 ((rd_T36 l0 x9_1).f3.f0), .int .i64 ((rd_T36 l0 x9_1).f3.f1), .int .i64 ((rd_T36 l0 x9_1).f3.f2), .int .i64 ((rd_T36 l0 x9_1).f3.f3), .int .i64 ((rd_T36 l0 x9_1).f3.f4), .bool ((rd_T36 l0 x9_1).f3.f5), .string (⟨#[]⟩ : ByteArray)]) ?_ 9 _ rfl; (with_reducible repeat (first | refine blk_drewN ?_ _ | refine blk_drew ?_ | refine blk_alloc ?_ _)); refine blk_put (cs := #[.int .i64 ((rd_T36 l0 x9_1).f0), .int .i64 ((rd_T36 l0 x9_1).f1), .bool false, .int .i64 ((rd_T36 l0 x9_1).f3.f0), .int .i64 ((rd_T36 l0 x9_1).f3.f1), .int .i64 ((rd_T36 l0 x9_1).f3.f2), .int .i64 ((rd_T36 l0 x9_1).f3.f3), .int .i64 ((rd_T36 l0 x9_1).f3.f4), .bool false, .string (⟨#[]⟩ : ByteArray)]) ?_ 8 _ rfl; (with_reducible repeat (first | refine blk_drewN ?_ _ | refine blk_drew ?_ | refine blk_alloc ?_ _)); refine blk_put (cs := #[.int .i64 ((rd_T36 l0 x9_1).f0), .int .i64 ((rd_T36 l0 x9_1).f1), .bool false, .int .i64 ((rd_T36 l0 x9_1).f3.f0), .int .i64 ((rd_T36 l0 x9_1).f3.f1), .int .i64 ((rd_T36 l0 x9_1).f3.f2), .int .i64 ((rd_T36 l0 x9_1).f3.f3), .int .i64 0, .bool false, .string (⟨#[]⟩ : ByteArray)]) ?_ 7 _ rfl; (with_reducible repeat (first | refine blk_drewN ?_ _ | refine blk_drew ?_ | refine blk_alloc ?_ _)); refine blk_put (cs := #[.int .i64 ((rd_T36 l0 x9_1).f0), .int .i64 ((rd_T36 l0 x9_1).f1), .bool false, .int .i64 ((rd_T36 l0 x9_1).f3.f0), .int .i64 ((rd_T36 l0 x9_1).f3.f1), .int .i64 ((rd_T36 l0 x9_1).f3.f2), .int .i64 0, .int .i64 0, .bool false, .string (⟨#[]⟩ : ByteArray)]) ?_ 6 _ rfl; (with_reducible repeat (first | refine blk_drewN ?_ _ | refine blk_drew ?_ | refine blk_alloc ?_ _)); refine blk_put (cs := #[.int .i64 ((rd_T36 l0 x9_1).f0), .int .i64 ((rd_T36 l0 x9_1).f1), .bool false, .int .i64 ((rd_T36 l0 x9_1).f3.f0), .int .i64 ((rd_T36 l0 x9_1).f3.f1), .int .i64 0, .int .i64 0, .int .i64 0, .bool false, .string (⟨#[]⟩ : ByteArray)]) ?_ 5 _ rfl; (with_reducible repeat (first | refine blk_drewN ?_ _ | refine blk_drew ?_ | refine blk_alloc ?_ _)); refine blk_put (cs := #[.int .i64 ((rd_T36 l0 x9_1).f0), .int .i64 ((rd_T36 l0 x9_1).f1), .bool false, .int .i64 ((rd_T36 l0 x9_1).f3.f0), .int .i64 0, .int .i64 0, .int .i64 0, .int .i64 0, .bool false, .string (⟨#[]⟩ : ByteArray)]) ?_ 4 _ rfl; (with_reducible repeat (first | refine blk_drewN ?_ _ | refine blk_drew ?_ | refine blk_alloc ?_ _)); refine blk_put (cs := #[.int .i64 ((rd_T36 l0 x9_1).f0), .int .i64 ((rd_T36 l0 x9_1).f1), .bool false, .int .i64 0, .int .i64 0, .int .i64 0, .int .i64 0, .int .i64 0, .bool false, .string (⟨#[]⟩ : ByteArray)]) ?_ 3 _ rfl; (with_reducible repeat (first | refine blk_drewN ?_ _ | refine blk_drew ?_ | refine blk_alloc ?_ _)); refine blk_put (cs := #[.int .i64 ((rd_T36 l0 x9_1).f0), .int .i64 ((rd_T36 l0 x9_1).f1), .bool false, .int .i64 0, .int .i64 0, .int .i64 0, .int .i64 0, .int .i64 0, .bool false, .string (⟨#[]⟩ : ByteArray)]) ?_ 2 _ rfl; (with_reducible repeat (first | refine blk_drewN ?_ _ | refine blk_drew ?_ | refine blk_alloc ?_ _)); refine blk_put (cs := #[.int .i64 ((rd_T36 l0 x9_1).f0), .int .i64 0, .bool false, .int .i64 0, .int .i64 0, .int .i64 0, .int .i64 0, .int .i64 0, .bool false, .string (⟨#[]⟩ : ByteArray)]) ?_ 1 _ rfl; (with_reducible repeat (first | refine blk_drewN ?_ _ | refine blk_drew ?_ | refine blk_alloc ?_ _)); refine blk_put (cs := #[.int .i64 0, .int .i64 0, .bool false, .int .i64 0, .int .i64 0, .int .i64 0, .int .i64 0, .int .i64 0, .bool false, .string (⟨#[]⟩ : ByteArray)]) ?_ 0 _ rfl; (with_reducible repeat (first | refine blk_drewN ?_ _ | refine blk_drew ?_ | refine blk_alloc ?_ _)); exact BK195.out) hb); have n1_ := Aside0.mk (below_step (by repeat (first | (with_reducible first | exact HB.out | apply below_alloc | apply pw_below_drewN | apply below_drew1 | refine below_set ?_ GE195.out) | exact HB.out)) hb); clear BK195; clear HB; have BK195 := n0_; have HB := n1_; clear n0_ n1_; (try clear hb); (try clear hb2); (try clear hk); (try clear hi)))
        go_roundg k1
        case measure => have := HK1.out; omega
        case rel => exact ⟨(wrap64 (x9_1 + 1)), (by first | rfl | (simp; done) | (simp [*]; done)), H', ⟨by have := HK1.out; omega⟩, ⟨by repeat (first | (with_reducible first | exact HB.out | apply below_alloc | apply pw_below_drewN | apply below_drew1 | refine below_set ?_ GE195.out) | exact HB.out)⟩⟩
       ·replace c11 := Bool.eq_false_iff.mpr c11
        subst c11
        have H1 : (some false) = some r := by rw [if_neg (show ¬ (false = true) by decide)] at H; exact H
        clear H
        have H := H1
        clear H1
        obtain rfl := Option.some.inj H
        have p194 : 0 ≤ (x9_1 : Int) := of_decide_eq_true (by first | (with_reducible assumption) | assumption)
        have q194 : x9_1 < (l0.length : Int) := of_decide_eq_true (by first | (with_reducible assumption) | assumption)
        obtain ⟨ad194, e194, hx194_0, hx194_1, hx194_2, hx194_3, hx194_4, hx194_5, hx194_6, hx194_7, hx194_8, hx194_9⟩ := at_T36 HR0.out x9_1 p194 q194
        (try rw [← Nbq6.out] at hx194_2)
        (try rw [← Nbq6.out] at hx194_8)
        cases e194
        replace hx194_0 := (HB.out.cell (World.block_lt_of_cell? w _ hx194_0)).trans hx194_0
        replace hx194_1 := (HB.out.cell (World.block_lt_of_cell? w _ hx194_1)).trans hx194_1
        replace hx194_2 := (HB.out.cell (World.block_lt_of_cell? w _ hx194_2)).trans hx194_2
        replace hx194_3 := (HB.out.cell (World.block_lt_of_cell? w _ hx194_3)).trans hx194_3
        replace hx194_4 := (HB.out.cell (World.block_lt_of_cell? w _ hx194_4)).trans hx194_4
        replace hx194_5 := (HB.out.cell (World.block_lt_of_cell? w _ hx194_5)).trans hx194_5
        replace hx194_6 := (HB.out.cell (World.block_lt_of_cell? w _ hx194_6)).trans hx194_6
        replace hx194_7 := (HB.out.cell (World.block_lt_of_cell? w _ hx194_7)).trans hx194_7
        replace hx194_8 := (HB.out.cell (World.block_lt_of_cell? w _ hx194_8)).trans hx194_8
        replace hx194_9 := (HB.out.cell (World.block_lt_of_cell? w _ hx194_9)).trans hx194_9
        replace p194 := eq_true p194
        replace q194 := eq_true q194
        go_wp2_with (first | ((with_reducible refine gate_dst (N := 6) rfl ?_); refine box_event ?hg (N := 6) ?hd (cs := #[.int .i64 0, .int .i64 0, .bool false, .int .i64 0, .int .i64 0, .int .i64 0, .int .i64 0, .int .i64 0, .bool false, .string (⟨#[]⟩ : ByteArray)]) (t := 36) ?hr ?_; (case hd => rfl); (case hg => rfl); (case hr => first | (go_simp; done) | (go_simp; rfl)); intro gb195 hg w15 hbox hb; have n0_ := Aside0.mk (below_step (by repeat (first | (with_reducible first | exact HB.out | apply below_alloc | apply pw_below_drewN | apply below_drew1) | exact HB.out)) hb); have n1_ := Aside0.mk (hbox); have n2_ := Aside0.mk ((by rw [hg]; exact (below_size (by repeat (first | (with_reducible first | exact HB.out | apply below_alloc | apply pw_below_drewN | apply below_drew1) | exact HB.out))) : w.heap.size ≤ gb195)); have n3_ := Aside0.mk ((by rw [hg]; exact (below_size (by repeat (first | (with_reducible first | exact HB.out | apply below_alloc | apply pw_below_drewN | apply below_drew1) | exact HB.out))) : w.heap.size ≤ gb195)); clear HB; have HB := n0_; have BK195 := n1_; have GW195 := n2_; have GE195 := n3_; clear n0_ n1_ n2_ n3_; clear hb hbox hg; have hcz16_0 : w15.cell? ⟨gb195, 0, none⟩ = some (.int .i64 0) := (blk_cell BK195.out 0).trans rfl; have hcz16_1 : w15.cell? ⟨gb195, 1, none⟩ = some (.int .i64 0) := (blk_cell BK195.out 1).trans rfl; have hcz16_2 : w15.cell? ⟨gb195, 2, none⟩ = some (.bool false) := (blk_cell BK195.out 2).trans rfl; have hcz16_3 : w15.cell? ⟨gb195, 3, none⟩ = some (.int .i64 0) := (blk_cell BK195.out 3).trans rfl; have hcz16_4 : w15.cell? ⟨gb195, 4, none⟩ = some (.int .i64 0) := (blk_cell BK195.out 4).trans rfl; have hcz16_5 : w15.cell? ⟨gb195, 5, none⟩ = some (.int .i64 0) := (blk_cell BK195.out 5).trans rfl; have hcz16_6 : w15.cell? ⟨gb195, 6, none⟩ = some (.int .i64 0) := (blk_cell BK195.out 6).trans rfl; have hcz16_7 : w15.cell? ⟨gb195, 7, none⟩ = some (.int .i64 0) := (blk_cell BK195.out 7).trans rfl; have hcz16_8 : w15.cell? ⟨gb195, 8, none⟩ = some (.bool false) := (blk_cell BK195.out 8).trans rfl; have hcz16_9 : w15.cell? ⟨gb195, 9, none⟩ = some (.string (⟨#[]⟩ : ByteArray)) := (blk_cell BK195.out 9).trans rfl; have hfz16_0 := blk_frozen BK195.out 0; have hfz16_1 := blk_frozen BK195.out 1; have hfz16_2 := blk_frozen BK195.out 2; have hfz16_3 := blk_frozen BK195.out 3; have hfz16_4 := blk_frozen BK195.out 4; have hfz16_5 := blk_frozen BK195.out 5; have hfz16_6 := blk_frozen BK195.out 6; have hfz16_7 := blk_frozen BK195.out 7; have hfz16_8 := blk_frozen BK195.out 8; have hfz16_9 := blk_frozen BK195.out 9) | (go_at_call 16; (with_reducible refine (almshouseref08_Right.calls ((rd_T36 l0 x9_1).f3.f0) ((rd_T36 l0 x9_1).f3.f1) ((rd_T36 l0 x9_1).f3.f2) ((rd_T36 l0 x9_1).f3.f3) ((rd_T36 l0 x9_1).f3.f4) ((rd_T36 l0 x9_1).f3.f5) false _ A10.out).mono ?_); rintro e w17 ⟨rfl, hb⟩; have n0_ := Aside0.mk (blk_below (g := gb195) (o := .cells #[.int .i64 ((rd_T36 l0 x9_1).f0), .int .i64 ((rd_T36 l0 x9_1).f1), .bool false, .int .i64 ((rd_T36 l0 x9_1).f3.f0), .int .i64 ((rd_T36 l0 x9_1).f3.f1), .int .i64 ((rd_T36 l0 x9_1).f3.f2), .int .i64 ((rd_T36 l0 x9_1).f3.f3), .int .i64 ((rd_T36 l0 x9_1).f3.f4), .bool ((rd_T36 l0 x9_1).f3.f5), .string ((rd_T36 l0 x9_1).f4)] 36 (0, 0)) (by (with_reducible repeat (first | refine blk_drewN ?_ _ | refine blk_drew ?_ | refine blk_alloc ?_ _)); refine blk_put (cs := #[.int .i64 ((rd_T36 l0 x9_1).f0), .int .i64 ((rd_T36 l0 x9_1).f1), .bool false, .int .i64 ((rd_T36 l0 x9_1).f3.f0), .int .i64 ((rd_T36 l0 x9_1).f3.f1), .int .i64 ((rd_T36 l0 x9_1).f3.f2), .int .i64 ((rd_T36 l0 x9_1).f3.f3), .int .i64 ((rd_T36 l0 x9_1).f3.f4), .bool ((rd_T36 l0 x9_1).f3.f5), .string (⟨#[]⟩ : ByteArray)]) ?_ 9 _ rfl; (with_reducible repeat (first | refine blk_drewN ?_ _ | refine blk_drew ?_ | refine blk_alloc ?_ _)); refine blk_put (cs := #[.int .i64 ((rd_T36 l0 x9_1).f0), .int .i64 ((rd_T36 l0 x9_1).f1), .bool false, .int .i64 ((rd_T36 l0 x9_1).f3.f0), .int .i64 ((rd_T36 l0 x9_1).f3.f1), .int .i64 ((rd_T36 l0 x9_1).f3.f2), .int .i64 ((rd_T36 l0 x9_1).f3.f3), .int .i64 ((rd_T36 l0 x9_1).f3.f4), .bool false, .string (⟨#[]⟩ : ByteArray)]) ?_ 8 _ rfl; (with_reducible repeat (first | refine blk_drewN ?_ _ | refine blk_drew ?_ | refine blk_alloc ?_ _)); refine blk_put (cs := #[.int .i64 ((rd_T36 l0 x9_1).f0), .int .i64 ((rd_T36 l0 x9_1).f1), .bool false, .int .i64 ((rd_T36 l0 x9_1).f3.f0), .int .i64 ((rd_T36 l0 x9_1).f3.f1), .int .i64 ((rd_T36 l0 x9_1).f3.f2), .int .i64 ((rd_T36 l0 x9_1).f3.f3), .int .i64 0, .bool false, .string (⟨#[]⟩ : ByteArray)]) ?_ 7 _ rfl; (with_reducible repeat (first | refine blk_drewN ?_ _ | refine blk_drew ?_ | refine blk_alloc ?_ _)); refine blk_put (cs := #[.int .i64 ((rd_T36 l0 x9_1).f0), .int .i64 ((rd_T36 l0 x9_1).f1), .bool false, .int .i64 ((rd_T36 l0 x9_1).f3.f0), .int .i64 ((rd_T36 l0 x9_1).f3.f1), .int .i64 ((rd_T36 l0 x9_1).f3.f2), .int .i64 0, .int .i64 0, .bool false, .string (⟨#[]⟩ : ByteArray)]) ?_ 6 _ rfl; (with_reducible repeat (first | refine blk_drewN ?_ _ | refine blk_drew ?_ | refine blk_alloc ?_ _)); refine blk_put (cs := #[.int .i64 ((rd_T36 l0 x9_1).f0), .int .i64 ((rd_T36 l0 x9_1).f1), .bool false, .int .i64 ((rd_T36 l0 x9_1).f3.f0), .int .i64 ((rd_T36 l0 x9_1).f3.f1), .int .i64 0, .int .i64 0, .int .i64 0, .bool false, .string (⟨#[]⟩ : ByteArray)]) ?_ 5 _ rfl; (with_reducible repeat (first | refine blk_drewN ?_ _ | refine blk_drew ?_ | refine blk_alloc ?_ _)); refine blk_put (cs := #[.int .i64 ((rd_T36 l0 x9_1).f0), .int .i64 ((rd_T36 l0 x9_1).f1), .bool false, .int .i64 ((rd_T36 l0 x9_1).f3.f0), .int .i64 0, .int .i64 0, .int .i64 0, .int .i64 0, .bool false, .string (⟨#[]⟩ : ByteArray)]) ?_ 4 _ rfl; (with_reducible repeat (first | refine blk_drewN ?_ _ | refine blk_drew ?_ | refine blk_alloc ?_ _)); refine blk_put (cs := #[.int .i64 ((rd_T36 l0 x9_1).f0), .int .i64 ((rd_T36 l0 x9_1).f1), .bool false, .int .i64 0, .int .i64 0, .int .i64 0, .int .i64 0, .int .i64 0, .bool false, .string (⟨#[]⟩ : ByteArray)]) ?_ 3 _ rfl; (with_reducible repeat (first | refine blk_drewN ?_ _ | refine blk_drew ?_ | refine blk_alloc ?_ _)); refine blk_put (cs := #[.int .i64 ((rd_T36 l0 x9_1).f0), .int .i64 ((rd_T36 l0 x9_1).f1), .bool false, .int .i64 0, .int .i64 0, .int .i64 0, .int .i64 0, .int .i64 0, .bool false, .string (⟨#[]⟩ : ByteArray)]) ?_ 2 _ rfl; (with_reducible repeat (first | refine blk_drewN ?_ _ | refine blk_drew ?_ | refine blk_alloc ?_ _)); refine blk_put (cs := #[.int .i64 ((rd_T36 l0 x9_1).f0), .int .i64 0, .bool false, .int .i64 0, .int .i64 0, .int .i64 0, .int .i64 0, .int .i64 0, .bool false, .string (⟨#[]⟩ : ByteArray)]) ?_ 1 _ rfl; (with_reducible repeat (first | refine blk_drewN ?_ _ | refine blk_drew ?_ | refine blk_alloc ?_ _)); refine blk_put (cs := #[.int .i64 0, .int .i64 0, .bool false, .int .i64 0, .int .i64 0, .int .i64 0, .int .i64 0, .int .i64 0, .bool false, .string (⟨#[]⟩ : ByteArray)]) ?_ 0 _ rfl; (with_reducible repeat (first | refine blk_drewN ?_ _ | refine blk_drew ?_ | refine blk_alloc ?_ _)); exact BK195.out) hb); have n1_ := Aside0.mk (below_step (by repeat (first | (with_reducible first | exact HB.out | apply below_alloc | apply pw_below_drewN | apply below_drew1 | refine below_set ?_ GE195.out) | exact HB.out)) hb); clear BK195; clear HB; have BK195 := n0_; have HB := n1_; clear n0_ n1_; (try clear hb); (try clear hb2); (try clear hk); (try clear hi)))
        go_ret
        exact ⟨by first | rfl | (simp [errW_none, errW_some] <;> rfl) | (simp [*, errW_none, errW_some] <;> rfl), by repeat (first | (with_reducible first | exact HB.out | apply below_alloc | apply pw_below_drewN | apply below_drew1 | refine below_set ?_ GE195.out) | exact HB.out)⟩
     ·rw [if_neg c5] at H
      exact absurd H (by simp)
    ·rw [if_neg c4] at H
     exact absurd H (by simp)
   ·rw [if_neg c3] at H
    have c3b0 : decide (x9_1 < (l0.length : Int)) = false := decide_eq_false c3
    clear c3
    by_cases c18 : (l0.length : Int) ≤ 60
    ·rw [if_pos c18] at H
     have c18b0 : decide ((l0.length : Int) ≤ 60) = true := decide_eq_true c18
     have c18b1 : decide (l0.length ≤ 60) = true := decide_eq_true (by omega)
     clear c18
     obtain rfl := Option.some.inj H
     go_wp2
     go_ret
     exact ⟨by first | rfl | (simp [errW_none, errW_some] <;> rfl) | (simp [*, errW_none, errW_some] <;> rfl), by repeat (first | (with_reducible first | exact HB.out | apply below_alloc | apply pw_below_drewN | apply below_drew1) | exact HB.out)⟩
    ·rw [if_neg c18] at H
     have c18b0 : decide ((l0.length : Int) ≤ 60) = false := decide_eq_false c18
     have c18b1 : decide (l0.length ≤ 60) = false := decide_eq_false (by omega)
     clear c18
     obtain rfl := Option.some.inj H
     go_wp2
     go_ret
     exact ⟨by first | rfl | (simp [errW_none, errW_some] <;> rfl) | (simp [*, errW_none, errW_some] <;> rfl), by repeat (first | (with_reducible first | exact HB.out | apply below_alloc | apply pw_below_drewN | apply below_drew1) | exact HB.out)⟩
end Go.Proofs.Ytdmbibjgiehboaa.P
