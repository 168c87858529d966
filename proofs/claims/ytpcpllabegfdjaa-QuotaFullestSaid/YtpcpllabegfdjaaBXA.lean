-- Cut by a program of this session (wip/pr/pack.py) to what one claim needs.
import Derived.Test.YtpcpllabegfdjaaBXAp
import Derived.Test.YtpcpllabegfdjaaBPx19
import Derived.Test.YtpcpllabegfdjaaBPx20
namespace Go.Proofs.Ytpcpllabegfdjaa.X
open Go.RowKit Go.Proofs.YtpcpllabegfdjaaW.PrintWords Go.Proofs.YtpcpllabegfdjaaW.PrintLast Go.Proofs.YtpcpllabegfdjaaW.PrintMore Go.Proofs.Ytpcpllabegfdjaa.P
attribute [local go_sem] max2_int min2_int max_two min_two max_three min_three max_four min_four
set_option linter.unusedVariables false
set_option linter.unusedSimpArgs false
theorem info25 : (Try.prog.info? 25).map (fun i => (i.zero, i.size, i.bytes)) = some (some (.slice none 0 0), 1, 24) := by kernel_rfl
theorem al_refl {α : Type} {d : Kd α} {W : World} {v : Value} {A : Option Addr} {xr xs : List α} (h : Al d W v A xr xs) : Below W.heap.size W W := Below.refl _ _
theorem bel_grown {w W w1 : World} {row : Option Nat} (h : Below w.heap.size w W) (hg : W.grownBy w1 row) (hr : ∀ k, row = some k → w.heap.size ≤ k) : Below w.heap.size w w1 := h.grown hg h.size hr
theorem base_up {w W : World} {v : Value} (h : Below w.heap.size w W) (hk : ∀ k, v.ownBlock = some k → W.heap.size ≤ k) : ∀ k, v.ownBlock = some k → w.heap.size ≤ k := fun k e => Nat.le_trans h.size (hk k e)
theorem base_at {w W : World} {v v1 : Value} (h : Below w.heap.size w W) (hx : ∀ k, v.ownBlock = some k → w.heap.size ≤ k) (hat : v1.ownBlock = v.ownBlock ∨ ∃ b, v1.ownBlock = some b ∧ W.heap.size ≤ b) : ∀ k, v1.ownBlock = some k → w.heap.size ≤ k := by
 intro k e
 rcases hat with hat | ⟨b, hb, hle⟩
 ·exact hx k (hat ▸ e)
 ·rw [hb] at e; injection e with e; have := h.size; omega
def almshouseref41_room.f (a0 : Int) : Option (Int) := if a0 > 64 then (some 64) else (some a0)
set_option maxHeartbeats 8000000 in
set_option maxRecDepth 100000 in
theorem almshouseref41_room.calls (a0 : Int) (r : Int) (w : World) (h : almshouseref41_room.f a0 = some r) :
  Calls Try.prog 25 #[.int .i64 a0] w fun e w' => e = .returned (.int .i64 r) ∧ Drawn0 w w' := by
 have H : (if a0 > 64 then (some 64) else (some a0)) = some r := h
 clear h
 by_cases c2 : a0 > 64
 ·rw [if_pos c2] at H
  have c2b0 : decide (64 < a0) = true := decide_eq_true c2
  clear c2
  obtain rfl := Option.some.inj H
  go_enter Try.func25, Try.ntmps25
  go_wp2
  go_ret
  exact ⟨by first | rfl | (simp; done) | (simp [*]; done), by repeat (first | exact Drawn0.refl _ | apply Drawn0.step)⟩
 ·rw [if_neg c2] at H
  have c2b0 : decide (64 < a0) = false := decide_eq_false c2
  clear c2
  obtain rfl := Option.some.inj H
  go_enter Try.func25, Try.ntmps25
  go_wp2
  go_ret
  exact ⟨by first | rfl | (simp; done) | (simp [*]; done), by repeat (first | exact Drawn0.refl _ | apply Drawn0.step)⟩
mutual
def almshouseref41_all.l0 : Nat → List (S42) → Int → Int → List (List Int) → List (S42) → Int → Int → Option ((List (List Int)))
 | 0, _, _, _, _, _, _, _ => none
 | k + 1, x0, x1, x2, x7, x14, x15, x16 => if x16 < x15 then (if 0 ≤ x16 then (if x16 < (x14.length : Int) then ((almshouseref41_Cost.f k ((rd_T42 x14 x16).f0) ((rd_T42 x14 x16).f1) x2).bind fun t114 => (if t114 = 0 then (almshouseref41_all.l0 k x0 x1 x2 x7 x14 x15 (wrap64 (x16 + 1))) else (almshouseref41_all.l1 k x0 x1 x2 x7 x16 t114 x14 x15 x16 x7 (x7.length : Int) 0))) else (none)) else (none)) else (some x7)
def almshouseref41_all.l1 : Nat → List (S42) → Int → Int → List (List Int) → Int → Int → List (S42) → Int → Int → List (List Int) → Int → Int → Option ((List (List Int)))
 | 0, _, _, _, _, _, _, _, _, _, _, _, _ => none
 | k + 1, x0, x1, x2, x7, x8, x10, x14, x15, x16, x26, x27, x28 => if x28 < x27 then (if 0 ≤ x28 then (if x28 < (x26.length : Int) then ((almshouseref41_Sum.f k x0 (rd_L2 x26 x28) x2).bind fun t116 => ((almshouseref41_room.f x1).bind fun t117 => (if (wrap64 (t116 + x10)) ≤ t117 then ((some (([] : List Int) : List Int)).bind fun y118 => (if y118.length + (rd_L2 x26 x28).length < 17592186044416 then ((some (y118 ++ (rd_L2 x26 x28) : List Int)).bind fun y121 => (if y121.length < 17592186044416 then (if x7.length < 5864062014805 then (almshouseref41_all.l1 k x0 x1 x2 (x7 ++ [(y121 ++ [x8])]) x8 x10 x14 x15 x16 x26 x27 (wrap64 (x28 + 1))) else (none)) else (none))) else (none))) else (almshouseref41_all.l1 k x0 x1 x2 x7 x8 x10 x14 x15 x16 x26 x27 (wrap64 (x28 + 1)))))) else (none)) else (none)) else (almshouseref41_all.l0 k x0 x1 x2 x7 x14 x15 (wrap64 (x16 + 1)))
end
def almshouseref41_all.f (k : Nat) (l0 : List (S42)) (a1 : Int) (a2 : Int) : Option ((List (List Int))) := almshouseref41_all.l0 k l0 a1 a2 (([[]] : List (List Int))) l0 (l0.length : Int) 0
set_option maxHeartbeats 8000000 in
set_option maxRecDepth 100000 in
theorem almshouseref41_all.calls (k : Nat) (A0 : Option Addr) (c0 : Nat) (l0 : List (S42)) (a1 : Int) (a2 : Int) (r : List (List Int)) (w : World) (hr0 : Kd.C k42 w A0 l0.length l0) (hc0 : l0.length ≤ c0) (h : almshouseref41_all.f k l0 a1 a2 = some r) :
  Calls Try.prog 15 #[.slice A0 l0.length c0, .int .i64 a1, .int .i64 a2] w fun e w' => ∃ v0_ : Value, e = .returned (v0_) ∧ Kd.S (Kd.slice 3 (Kd.int .i64)) 25 w' w.heap.size (fun _ => True) v0_ r ∧ Below w.heap.size w w' := by
 have hu42 := Try.underlying42
 have HR0 := Aside0.mk hr0
 have HC0 := Aside0.mk hc0
 clear hr0 hc0
 have HB := Aside0.mk (Below.refl w.heap.size w)
 have H : (almshouseref41_all.l0 k l0 a1 a2 (([[]] : List (List Int))) l0 (l0.length : Int) 0) = some r := h
 clear h
 obtain ⟨y109, hy109⟩ : ∃ y_ : List (List Int), y_ = (([[]] : List (List Int))) := ⟨_, rfl⟩
 replace H : (almshouseref41_all.l0 k l0 a1 a2 y109 l0 (l0.length : Int) 0) = some r := by first | (rw [hy109]; with_reducible exact H) | (have H2_ := (Option.bind_some _ _).symm.trans H; rw [hy109]; with_reducible exact H2_) | (have H2_ := (Option.bind_some _ _).symm.trans H; with_reducible exact H2_) | with_reducible exact H | (rw [hy109]; exact H) | exact H
 have Ny109 := Aside0.mk hy109
 clear hy109
 have H' := Aside0.mk H
 clear H
 go_enter Try.func15, Try.ntmps15
 go_wp2_with (first | ((with_reducible refine gate_dst (N := 13) rfl ?_); refine Kd.S_lit (Kd.slice 3 (Kd.int .i64)) _ 25 ?hg (N := 13) ?hd (xs := ([[]] : List (List Int))) (inner := [.slice none 0 0]) (ok := fun _ => True) (okp := fun _ => True) ?hr ?hp (fun _ hk => hk) trivial (Below.refl _ _) (Nat.le_refl _) (by simp) ?_; (case hd => rfl); (case hg => rfl); (case hr => first | (go_simp; done) | (go_simp; rfl)); (case hp => exact (Reps.one (show Kd.M (Kd.slice 3 (Kd.int .i64)) _ _ _ [] [.slice none 0 0] from ⟨_, rfl, Kd.R_nil _ _ _ _ _⟩) (Reps.none _ _))); intro v110 w5 ho6 hb hg_ hnew_; clear hg_ hnew_; (first | rw [← Ny109.out] at ho6 | (simp only [Int.reduceToNat] at ho6; rw [← Ny109.out] at ho6)); have n0_ := Aside0.mk (Kd.S_lower ho6 (below_size (by repeat (first | (with_reducible first | exact HB.out | apply below_alloc | apply pw_below_drewN | apply below_drew1) | exact HB.out)))); have n1_ := Aside0.mk (below_step (by repeat (first | (with_reducible first | exact HB.out | apply below_alloc | apply pw_below_drewN | apply below_drew1) | exact HB.out)) hb); clear HB; have HO111 := n0_; have HB := n1_; clear n0_ n1_; clear hb ho6))
 go_loopg [7, 16] k (fun kq v7 v16 w' => ∃ (x7_1 : List (List Int)) (x16_1 : Int), v16 = .int .i64 x16_1 ∧ Aside0 (almshouseref41_all.l0 kq l0 a1 a2 x7_1 l0 (l0.length : Int) x16_1 = some r) ∧ Aside0 (kq ≤ k) ∧ Aside0 (Kd.S (Kd.slice 3 (Kd.int .i64)) 25 w' w.heap.size (fun _ => True) v7 x7_1) ∧ Aside0 (Below w.heap.size w w'))
 case atStart => exact ⟨(y109), (0), (by first | rfl | (simp; done) | (simp [*]; done)), H', ⟨Nat.le_refl _⟩, ⟨by (with_reducible repeat (first | apply Kd.S_alloc | apply Kd.S_drewN | apply Kd.S_drew)); exact HO111.out⟩, ⟨by repeat (first | (with_reducible first | exact HB.out | apply below_alloc | apply pw_below_drewN | apply below_drew1) | exact HB.out)⟩⟩
 case round =>
  clear H'
  try clear c1
  try clear p2
  try clear c3
  obtain ⟨x7_1, x16_1, rfl, HA, HK1, HO_7, HB⟩ := hrel
  cases gk with
  | zero => exact absurd HA.out (by simp [almshouseref41_all.l0])
  | succ k1 =>
   have H := HA.out
   clear HA
   simp only [almshouseref41_all.l0] at H
   by_cases c7 : x16_1 < (l0.length : Int)
   ·rw [if_pos c7] at H
    have c7b0 : decide (x16_1 < (l0.length : Int)) = true := decide_eq_true c7
    clear c7
    (try simp only [hl115_0] at c7b0)
    by_cases c8 : 0 ≤ x16_1
    ·rw [if_pos c8] at H
     have c8b0 : decide (0 ≤ x16_1) = true := decide_eq_true c8
     clear c8
     by_cases c9 : x16_1 < (l0.length : Int)
     ·rw [if_pos c9] at H
      have c9b0 : decide (x16_1 < (l0.length : Int)) = true := decide_eq_true c9
      clear c9
      (try simp only [hl115_0] at c9b0)
      replace H := Option.bind_eq_some_iff.mp H
      obtain ⟨t114, A100, H⟩ := H
      replace H : (if t114 = 0 then (almshouseref41_all.l0 k1 l0 a1 a2 x7_1 l0 (l0.length : Int) (wrap64 (x16_1 + 1))) else (almshouseref41_all.l1 k1 l0 a1 a2 x7_1 x16_1 t114 l0 (l0.length : Int) x16_1 x7_1 (x7_1.length : Int) 0)) = some r := H
      have A10 := Aside0.mk A100
      clear A100
      by_cases c11 : t114 = 0
      ·rw [if_pos c11] at H
       have c11b0 : (t114 == 0) = true := beq_iff_eq.mpr c11
       have c11b1 : (t114 != 0) = false := bne_eq_false_iff_eq.mpr c11
       clear c11
       have H' := Aside0.mk H
       clear H
       have p112 : 0 ≤ (x16_1 : Int) := of_decide_eq_true (by first | (with_reducible assumption) | assumption)
       have q112 : x16_1 < (l0.length : Int) := of_decide_eq_true (by first | (with_reducible assumption) | assumption)
       obtain ⟨ad112, e112, hx112_0, hx112_1⟩ := at_T42 HR0.out x16_1 p112 q112
       cases e112
       replace hx112_0 := (HB.out.cell (World.block_lt_of_cell? w _ hx112_0)).trans hx112_0
       replace hx112_1 := (HB.out.cell (World.block_lt_of_cell? w _ hx112_1)).trans hx112_1
       replace p112 := eq_true p112
       replace q112 := eq_true q112
       go_wp2_with (first | ((with_reducible refine gate_dst (N := 9) rfl ?_); refine box_event ?hg (N := 9) ?hd (cs := #[.int .i64 0, .int .i64 0]) (t := 42) ?hr ?_; (case hd => rfl); (case hg => rfl); (case hr => first | (go_simp; done) | (go_simp; rfl)); intro gb113 hg w12 hbox hb; have n0_ := Aside0.mk (Kd.S_below (by (with_reducible repeat (first | apply Kd.S_alloc | apply Kd.S_drewN | apply Kd.S_drew)); exact HO_7.out) hb); have n1_ := Aside0.mk (below_step (by repeat (first | (with_reducible first | exact HB.out | apply below_alloc | apply pw_below_drewN | apply below_drew1) | exact HB.out)) hb); have n2_ := Aside0.mk (hbox); have n3_ := Aside0.mk ((by rw [hg]; exact (below_size (by repeat (first | (with_reducible first | exact HB.out | apply below_alloc | apply pw_below_drewN | apply below_drew1) | exact HB.out))) : w.heap.size ≤ gb113)); have n4_ := Aside0.mk ((by rw [hg]; exact (below_size (by repeat (first | (with_reducible first | exact HB.out | apply below_alloc | apply pw_below_drewN | apply below_drew1) | exact HB.out))) : w.heap.size ≤ gb113)); clear HO_7; clear HB; have HO_7 := n0_; have HB := n1_; have BK113 := n2_; have GW113 := n3_; have GE113 := n4_; clear n0_ n1_ n2_ n3_ n4_; clear hb hbox hg; have hcz13_0 : w12.cell? ⟨gb113, 0, none⟩ = some (.int .i64 0) := (blk_cell BK113.out 0).trans rfl; have hcz13_1 : w12.cell? ⟨gb113, 1, none⟩ = some (.int .i64 0) := (blk_cell BK113.out 1).trans rfl; have hfz13_0 := blk_frozen BK113.out 0; have hfz13_1 := blk_frozen BK113.out 1) | ((with_reducible refine gate_callee (f := 22) rfl ?_); refine goesL_ (some 23) rfl rfl Try.func22 (by kernel_rfl) rfl #[.agg #[.int .i64 ((rd_T42 l0 x16_1).f0), .int .i64 ((rd_T42 l0 x16_1).f1)], .int .i64 a2] rfl (by (try simp only [List.map_toArray, List.map_cons, List.map_nil]); first | done | rfl | (simp only [List.length_drop, List.length_take]; rfl)) ?_; (with_reducible refine (almshouseref41_Cost.calls k1 ((rd_T42 l0 x16_1).f0) ((rd_T42 l0 x16_1).f1) a2 t114 _ A10.out).mono ?_); rintro e w14 ⟨rfl, hb⟩; refine ⟨_, rfl, ?_⟩; have n0_ := Aside0.mk (Kd.S_below (by (with_reducible repeat (first | apply Kd.S_alloc | apply Kd.S_drewN | apply Kd.S_drew)); exact (Kd.S_mono (Kd.S_far (p := ⟨gb113, 1, none⟩) (Kd.S_far (p := ⟨gb113, 0, none⟩) (Kd.S_types HO_7.out BK113.out (by decide)) (fun _ hk => hk.2) (.int .i64 ((rd_T42 l0 x16_1).f0))) (fun _ hk => hk.2) (.int .i64 ((rd_T42 l0 x16_1).f1))) (fun _ h_ => h_.1))) hb); have n1_ := Aside0.mk (blk_below (g := gb113) (o := .cells #[.int .i64 ((rd_T42 l0 x16_1).f0), .int .i64 ((rd_T42 l0 x16_1).f1)] 42 (0, 0)) (by (with_reducible repeat (first | refine blk_drewN ?_ _ | refine blk_drew ?_ | refine blk_alloc ?_ _)); refine blk_put (cs := #[.int .i64 ((rd_T42 l0 x16_1).f0), .int .i64 0]) ?_ 1 _ rfl; (with_reducible repeat (first | refine blk_drewN ?_ _ | refine blk_drew ?_ | refine blk_alloc ?_ _)); refine blk_put (cs := #[.int .i64 0, .int .i64 0]) ?_ 0 _ rfl; (with_reducible repeat (first | refine blk_drewN ?_ _ | refine blk_drew ?_ | refine blk_alloc ?_ _)); exact BK113.out) hb); have n2_ := Aside0.mk (below_step (by repeat (first | (with_reducible first | exact HB.out | apply below_alloc | apply pw_below_drewN | apply below_drew1 | refine below_set ?_ GE113.out) | exact HB.out)) hb); clear HO_7; clear BK113; clear HB; have HO_7 := n0_; have BK113 := n1_; have HB := n2_; clear n0_ n1_ n2_; (try clear hb); (try clear hb2); (try clear hk); (try clear hi)))
       go_roundg k1
       case measure => have := HK1.out; omega
       case rel => exact ⟨(x7_1), (wrap64 (x16_1 + 1)), (by first | rfl | (simp; done) | (simp [*]; done)), H', ⟨by have := HK1.out; omega⟩, ⟨by (with_reducible repeat (first | apply Kd.S_alloc | apply Kd.S_drewN | apply Kd.S_drew)); exact HO_7.out⟩, ⟨by repeat (first | (with_reducible first | exact HB.out | apply below_alloc | apply pw_below_drewN | apply below_drew1 | refine below_set ?_ GE113.out) | exact HB.out)⟩⟩
      ·rw [if_neg c11] at H
       obtain ⟨A26, c26, e26⟩ := Kd.S_slice HO_7.out
       subst e26
       have c11b0 : (t114 == 0) = false := beq_eq_false_iff_ne.mpr c11
       have c11b1 : (t114 != 0) = true := bne_iff_ne.mpr c11
       have H' := Aside0.mk H
       clear H
       have p112 : 0 ≤ (x16_1 : Int) := of_decide_eq_true (by first | (with_reducible assumption) | assumption)
       have q112 : x16_1 < (l0.length : Int) := of_decide_eq_true (by first | (with_reducible assumption) | assumption)
       obtain ⟨ad112, e112, hx112_0, hx112_1⟩ := at_T42 HR0.out x16_1 p112 q112
       cases e112
       replace hx112_0 := (HB.out.cell (World.block_lt_of_cell? w _ hx112_0)).trans hx112_0
       replace hx112_1 := (HB.out.cell (World.block_lt_of_cell? w _ hx112_1)).trans hx112_1
       replace p112 := eq_true p112
       replace q112 := eq_true q112
       go_wp2_with (first | ((with_reducible refine gate_dst (N := 9) rfl ?_); refine box_event ?hg (N := 9) ?hd (cs := #[.int .i64 0, .int .i64 0]) (t := 42) ?hr ?_; (case hd => rfl); (case hg => rfl); (case hr => first | (go_simp; done) | (go_simp; rfl)); intro gb113 hg w15 hbox hb; have n0_ := Aside0.mk (Kd.S_below (by (with_reducible repeat (first | apply Kd.S_alloc | apply Kd.S_drewN | apply Kd.S_drew)); exact HO_7.out) hb); have n1_ := Aside0.mk (below_step (by repeat (first | (with_reducible first | exact HB.out | apply below_alloc | apply pw_below_drewN | apply below_drew1) | exact HB.out)) hb); have n2_ := Aside0.mk (hbox); have n3_ := Aside0.mk ((by rw [hg]; exact (below_size (by repeat (first | (with_reducible first | exact HB.out | apply below_alloc | apply pw_below_drewN | apply below_drew1) | exact HB.out))) : w.heap.size ≤ gb113)); have n4_ := Aside0.mk ((by rw [hg]; exact (below_size (by repeat (first | (with_reducible first | exact HB.out | apply below_alloc | apply pw_below_drewN | apply below_drew1) | exact HB.out))) : w.heap.size ≤ gb113)); clear HO_7; clear HB; have HO_7 := n0_; have HB := n1_; have BK113 := n2_; have GW113 := n3_; have GE113 := n4_; clear n0_ n1_ n2_ n3_ n4_; clear hb hbox hg; have hcz16_0 : w15.cell? ⟨gb113, 0, none⟩ = some (.int .i64 0) := (blk_cell BK113.out 0).trans rfl; have hcz16_1 : w15.cell? ⟨gb113, 1, none⟩ = some (.int .i64 0) := (blk_cell BK113.out 1).trans rfl; have hfz16_0 := blk_frozen BK113.out 0; have hfz16_1 := blk_frozen BK113.out 1) | ((with_reducible refine gate_callee (f := 22) rfl ?_); refine goesL_ (some 23) rfl rfl Try.func22 (by kernel_rfl) rfl #[.agg #[.int .i64 ((rd_T42 l0 x16_1).f0), .int .i64 ((rd_T42 l0 x16_1).f1)], .int .i64 a2] rfl (by (try simp only [List.map_toArray, List.map_cons, List.map_nil]); first | done | rfl | (simp only [List.length_drop, List.length_take]; rfl)) ?_; (with_reducible refine (almshouseref41_Cost.calls k1 ((rd_T42 l0 x16_1).f0) ((rd_T42 l0 x16_1).f1) a2 t114 _ A10.out).mono ?_); rintro e w17 ⟨rfl, hb⟩; refine ⟨_, rfl, ?_⟩; have n0_ := Aside0.mk (Kd.S_below (by (with_reducible repeat (first | apply Kd.S_alloc | apply Kd.S_drewN | apply Kd.S_drew)); exact (Kd.S_mono (Kd.S_far (p := ⟨gb113, 1, none⟩) (Kd.S_far (p := ⟨gb113, 0, none⟩) (Kd.S_types HO_7.out BK113.out (by decide)) (fun _ hk => hk.2) (.int .i64 ((rd_T42 l0 x16_1).f0))) (fun _ hk => hk.2) (.int .i64 ((rd_T42 l0 x16_1).f1))) (fun _ h_ => h_.1))) hb); have n1_ := Aside0.mk (blk_below (g := gb113) (o := .cells #[.int .i64 ((rd_T42 l0 x16_1).f0), .int .i64 ((rd_T42 l0 x16_1).f1)] 42 (0, 0)) (by (with_reducible repeat (first | refine blk_drewN ?_ _ | refine blk_drew ?_ | refine blk_alloc ?_ _)); refine blk_put (cs := #[.int .i64 ((rd_T42 l0 x16_1).f0), .int .i64 0]) ?_ 1 _ rfl; (with_reducible repeat (first | refine blk_drewN ?_ _ | refine blk_drew ?_ | refine blk_alloc ?_ _)); refine blk_put (cs := #[.int .i64 0, .int .i64 0]) ?_ 0 _ rfl; (with_reducible repeat (first | refine blk_drewN ?_ _ | refine blk_drew ?_ | refine blk_alloc ?_ _)); exact BK113.out) hb); have n2_ := Aside0.mk (below_step (by repeat (first | (with_reducible first | exact HB.out | apply below_alloc | apply pw_below_drewN | apply below_drew1 | refine below_set ?_ GE113.out) | exact HB.out)) hb); clear HO_7; clear BK113; clear HB; have HO_7 := n0_; have BK113 := n1_; have HB := n2_; clear n0_ n1_ n2_; (try clear hb); (try clear hb2); (try clear hk); (try clear hi)))
       go_loopg [7, 28] k1 (fun kq v7 v28 w' => ∃ (x7_2 : List (List Int)) (x28_2 : Int), v28 = .int .i64 x28_2 ∧ Aside0 (almshouseref41_all.l1 kq l0 a1 a2 x7_2 x16_1 t114 l0 (l0.length : Int) x16_1 x7_1 (x7_1.length : Int) x28_2 = some r) ∧ Aside0 (kq ≤ k1) ∧ Aside0 (Kd.S (Kd.slice 3 (Kd.int .i64)) 25 w' w.heap.size (fun _ => True) v7 x7_2) ∧ Aside0 (Al (Kd.slice 3 (Kd.int .i64)) w' v7 A26 x7_1 x7_2) ∧ Aside0 (w'.heap[gb113]? = some (.cells #[.int .i64 ((rd_T42 l0 x16_1).f0), .int .i64 ((rd_T42 l0 x16_1).f1)] 42 (0, 0))) ∧ Aside0 (Below w.heap.size w w'))
       case atStart => exact ⟨(x7_1), (0), (by first | rfl | (simp; done) | (simp [*]; done)), H', ⟨Nat.le_refl _⟩, ⟨by (with_reducible repeat (first | apply Kd.S_alloc | apply Kd.S_drewN | apply Kd.S_drew)); exact HO_7.out⟩, ⟨al_start⟩, ⟨by (with_reducible repeat (first | refine blk_drewN ?_ _ | refine blk_drew ?_ | refine blk_alloc ?_ _)); exact BK113.out⟩, ⟨by repeat (first | (with_reducible first | exact HB.out | apply below_alloc | apply pw_below_drewN | apply below_drew1 | refine below_set ?_ GE113.out) | exact HB.out)⟩⟩
       case round =>
        clear H'
        try clear c1
        try clear p1
        try clear q1
        try clear hx1
        try clear c2
        try clear p2
        try clear c3
        try clear p6
        try clear c7
        try clear c7b0
        try clear c8
        try clear c8b0
        try clear c9
        try clear c9b0
        try clear c11
        try clear c11b0
        try clear c11b1
        try clear p11
        try clear q11
        try clear hx11
        try clear c15
        try clear hcz13_0
        try clear hcz13_1
        try clear hcz16_0
        try clear hcz16_1
        try clear hfz13_0
        try clear hfz13_1
        try clear hfz16_0
        try clear hfz16_1
        try clear hx112_0
        try clear hx112_1
        try clear p112
        try clear p2
        try clear q112
        clear HO_7
        obtain ⟨x7_2, x28_2, rfl, HA, HK2, HO_7, AL, BK113, HB⟩ := hrel
        have HBK := Aside0.mk (al_refl AL.out)
        have HR3 := Aside0.mk (al_C AL.out HO_7.out)
        cases gk with
        | zero => exact absurd HA.out (by simp [almshouseref41_all.l1])
        | succ k2 =>
         have H := HA.out
         clear HA
         simp only [almshouseref41_all.l1] at H
         by_cases c18 : x28_2 < (x7_1.length : Int)
         ·rw [if_pos c18] at H
          have c18b0 : decide (x28_2 < (x7_1.length : Int)) = true := decide_eq_true c18
          clear c18
          (try simp only [hl115_0] at c18b0)
          by_cases c19 : 0 ≤ x28_2
          ·rw [if_pos c19] at H
           have c19b0 : decide (0 ≤ x28_2) = true := decide_eq_true c19
           clear c19
           by_cases c20 : x28_2 < (x7_1.length : Int)
           ·rw [if_pos c20] at H
            have c20b0 : decide (x28_2 < (x7_1.length : Int)) = true := decide_eq_true c20
            clear c20
            (try simp only [hl115_0] at c20b0)
            replace H := Option.bind_eq_some_iff.mp H
            obtain ⟨t116, A210, H⟩ := H
            replace H : ((almshouseref41_room.f a1).bind fun t117 => (if (wrap64 (t116 + t114)) ≤ t117 then ((some (([] : List Int) : List Int)).bind fun y118 => (if y118.length + (rd_L2 x7_1 x28_2).length < 17592186044416 then ((some (y118 ++ (rd_L2 x7_1 x28_2) : List Int)).bind fun y121 => (if y121.length < 17592186044416 then (if x7_2.length < 5864062014805 then (almshouseref41_all.l1 k2 l0 a1 a2 (x7_2 ++ [(y121 ++ [x16_1])]) x16_1 t114 l0 (l0.length : Int) x16_1 x7_1 (x7_1.length : Int) (wrap64 (x28_2 + 1))) else (none)) else (none))) else (none))) else (almshouseref41_all.l1 k2 l0 a1 a2 x7_2 x16_1 t114 l0 (l0.length : Int) x16_1 x7_1 (x7_1.length : Int) (wrap64 (x28_2 + 1))))) = some r := H
            have A21 := Aside0.mk A210
            clear A210
            replace H := Option.bind_eq_some_iff.mp H
            obtain ⟨t117, A220, H⟩ := H
            replace H : (if (wrap64 (t116 + t114)) ≤ t117 then ((some (([] : List Int) : List Int)).bind fun y118 => (if y118.length + (rd_L2 x7_1 x28_2).length < 17592186044416 then ((some (y118 ++ (rd_L2 x7_1 x28_2) : List Int)).bind fun y121 => (if y121.length < 17592186044416 then (if x7_2.length < 5864062014805 then (almshouseref41_all.l1 k2 l0 a1 a2 (x7_2 ++ [(y121 ++ [x16_1])]) x16_1 t114 l0 (l0.length : Int) x16_1 x7_1 (x7_1.length : Int) (wrap64 (x28_2 + 1))) else (none)) else (none))) else (none))) else (almshouseref41_all.l1 k2 l0 a1 a2 x7_2 x16_1 t114 l0 (l0.length : Int) x16_1 x7_1 (x7_1.length : Int) (wrap64 (x28_2 + 1)))) = some r := H
            have A22 := Aside0.mk A220
            clear A220
            by_cases c23 : (wrap64 (t116 + t114)) ≤ t117
            ·rw [if_pos c23] at H
             have c23b0 : decide ((wrap64 (t116 + t114)) ≤ t117) = true := decide_eq_true c23
             clear c23
             obtain ⟨y118, hy118⟩ : ∃ y_ : List Int, y_ = (([] : List Int)) := ⟨_, rfl⟩
             replace H : (if y118.length + (rd_L2 x7_1 x28_2).length < 17592186044416 then ((some (y118 ++ (rd_L2 x7_1 x28_2) : List Int)).bind fun y121 => (if y121.length < 17592186044416 then (if x7_2.length < 5864062014805 then (almshouseref41_all.l1 k2 l0 a1 a2 (x7_2 ++ [(y121 ++ [x16_1])]) x16_1 t114 l0 (l0.length : Int) x16_1 x7_1 (x7_1.length : Int) (wrap64 (x28_2 + 1))) else (none)) else (none))) else (none)) = some r := by first | (rw [hy118]; with_reducible exact H) | (have H2_ := (Option.bind_some _ _).symm.trans H; rw [hy118]; with_reducible exact H2_) | (have H2_ := (Option.bind_some _ _).symm.trans H; with_reducible exact H2_) | with_reducible exact H | (rw [hy118]; exact H) | exact H
             have Ny118 := Aside0.mk hy118
             clear hy118
             by_cases c24 : y118.length + (rd_L2 x7_1 x28_2).length < 17592186044416
             ·rw [if_pos c24] at H
              have LMc24 := Aside0.mk c24
              clear c24
              obtain ⟨y121, hy121⟩ : ∃ y_ : List Int, y_ = (y118 ++ (rd_L2 x7_1 x28_2)) := ⟨_, rfl⟩
              replace H : (if y121.length < 17592186044416 then (if x7_2.length < 5864062014805 then (almshouseref41_all.l1 k2 l0 a1 a2 (x7_2 ++ [(y121 ++ [x16_1])]) x16_1 t114 l0 (l0.length : Int) x16_1 x7_1 (x7_1.length : Int) (wrap64 (x28_2 + 1))) else (none)) else (none)) = some r := by first | (rw [hy121]; with_reducible exact H) | (have H2_ := (Option.bind_some _ _).symm.trans H; rw [hy121]; with_reducible exact H2_) | (have H2_ := (Option.bind_some _ _).symm.trans H; with_reducible exact H2_) | with_reducible exact H | (rw [hy121]; exact H) | exact H
              have Ny121 := Aside0.mk hy121
              clear hy121
              by_cases c25 : y121.length < 17592186044416
              ·rw [if_pos c25] at H
               have LMc25 := Aside0.mk c25
               clear c25
               obtain ⟨y124, hy124⟩ : ∃ y_ : List Int, y_ = (y121 ++ [x16_1]) := ⟨_, rfl⟩
               replace H : (if x7_2.length < 5864062014805 then (almshouseref41_all.l1 k2 l0 a1 a2 (x7_2 ++ [y124]) x16_1 t114 l0 (l0.length : Int) x16_1 x7_1 (x7_1.length : Int) (wrap64 (x28_2 + 1))) else (none)) = some r := by first | (rw [hy124]; with_reducible exact H) | (have H2_ := (Option.bind_some _ _).symm.trans H; rw [hy124]; with_reducible exact H2_) | (have H2_ := (Option.bind_some _ _).symm.trans H; with_reducible exact H2_) | with_reducible exact H | (rw [hy124]; exact H) | exact H
               have Ny124 := Aside0.mk hy124
               clear hy124
               by_cases c26 : x7_2.length < 5864062014805
               ·rw [if_pos c26] at H
                have LMc26 := Aside0.mk c26
                clear c26
                obtain ⟨y127, hy127⟩ : ∃ y_ : List (List Int), y_ = (x7_2 ++ [y124]) := ⟨_, rfl⟩
                replace H : (almshouseref41_all.l1 k2 l0 a1 a2 y127 x16_1 t114 l0 (l0.length : Int) x16_1 x7_1 (x7_1.length : Int) (wrap64 (x28_2 + 1))) = some r := by first | (rw [hy127]; with_reducible exact H) | (have H2_ := (Option.bind_some _ _).symm.trans H; rw [hy127]; with_reducible exact H2_) | (have H2_ := (Option.bind_some _ _).symm.trans H; with_reducible exact H2_) | with_reducible exact H | (rw [hy127]; exact H) | exact H
                have Ny127 := Aside0.mk hy127
                clear hy127
                have H' := Aside0.mk H
                clear H
                have p115 : 0 ≤ (x28_2 : Int) := of_decide_eq_true (by first | (with_reducible assumption) | assumption)
                have q115 : x28_2 < (x7_1.length : Int) := of_decide_eq_true (by first | (with_reducible assumption) | assumption)
                obtain ⟨ad115, A115_0, c115_0, e115, hx115_0, hl115_0, hi115_0⟩ := at_L2 HR3.out x28_2 p115 q115
                cases e115
                have HR115_0 := Aside0.mk hi115_0
                have HC115_0 := Aside0.mk hl115_0
                clear hi115_0 hl115_0
                replace p115 := eq_true p115
                replace q115 := eq_true q115
                go_wp2_with (first | ((with_reducible refine gate_callee (f := 12) rfl ?_); refine goesL_ (some 35) rfl rfl Try.func12 (by kernel_rfl) rfl #[.slice (some ad112) l0.length c0, .slice A115_0 (rd_L2 x7_1 x28_2).length c115_0, .int .i64 a2] rfl (by (try simp only [List.map_toArray, List.map_cons, List.map_nil]); first | done | rfl | (simp only [List.length_drop, List.length_take]; rfl)) ?_; (with_reducible refine (almshouseref41_Sum.calls k2 _ _ l0 _ _ (rd_L2 x7_1 x28_2) a2 t116 _ ?side1 ?side2 ?side3 ?side4 A21.out).mono ?_); (case side1 => repeat (first | exact (Kd.C_below HR0.out HB.out) | (with_reducible refine Kd.C_alloc ?_ _) | (with_reducible refine Kd.C_drewN ?_ _) | (with_reducible refine Kd.C_drew ?_))); (case side2 => exact HC0.out); (case side3 => repeat (first | exact (Kd.C_below HR115_0.out HBK.out) | (with_reducible refine Kd.C_alloc ?_ _) | (with_reducible refine Kd.C_drewN ?_ _) | (with_reducible refine Kd.C_drew ?_))); (case side4 => exact HC115_0.out); rintro e w27 ⟨rfl, hb⟩; refine ⟨_, rfl, ?_⟩; have n8_ := Aside0.mk (below_step (by repeat (first | (with_reducible first | exact HBK.out | apply below_alloc | apply pw_below_drewN | apply below_drew1) | exact HBK.out)) hb); clear HBK; have HBK := n8_; clear n8_; have n0_ := Aside0.mk (Kd.S_below (by (with_reducible repeat (first | apply Kd.S_alloc | apply Kd.S_drewN | apply Kd.S_drew)); exact HO_7.out) hb); have n1_ := Aside0.mk (blk_below (g := gb113) (o := .cells #[.int .i64 ((rd_T42 l0 x16_1).f0), .int .i64 ((rd_T42 l0 x16_1).f1)] 42 (0, 0)) (by (with_reducible repeat (first | refine blk_drewN ?_ _ | refine blk_drew ?_ | refine blk_alloc ?_ _)); exact BK113.out) hb); have n2_ := Aside0.mk (below_step (by repeat (first | (with_reducible first | exact HB.out | apply below_alloc | apply pw_below_drewN | apply below_drew1 | refine below_set ?_ GE113.out) | exact HB.out)) hb); clear HO_7; clear BK113; clear HB; have HO_7 := n0_; have BK113 := n1_; have HB := n2_; clear n0_ n1_ n2_; (try clear hb); (try clear hb2); (try clear hk); (try clear hi)) | ((with_reducible refine gate_callee (f := 25) rfl ?_); refine goesL_ (some 39) rfl rfl Try.func25 (by kernel_rfl) rfl #[.int .i64 a1] rfl (by (try simp only [List.map_toArray, List.map_cons, List.map_nil]); first | done | rfl | (simp only [List.length_drop, List.length_take]; rfl)) ?_; (with_reducible refine (almshouseref41_room.calls a1 t117 _ A22.out).mono ?_); rintro e w' ⟨rfl, ⟨nd, rfl⟩⟩; refine ⟨_, rfl, ?_⟩) | ((with_reducible refine gate_dst (N := 42) rfl ?_); refine Kd.R_lit (Kd.int .i64) _ 3 ?hg (N := 42) ?hd (xs := ([] : List Int)) (inner := []) (ok := fun _ => True) (okp := fun _ => True) ?hr ?hp (fun _ hk => hk) trivial (Below.refl _ _) (Nat.le_refl _) (by simp) ?_; (case hd => rfl); (case hg => rfl); (case hr => first | (go_simp; done) | (go_simp; rfl)); (case hp => exact (Reps.none _ _)); intro v119 w28 ho29 hb hg_ hnew_; clear hg_ hnew_; (first | rw [← Ny118.out] at ho29 | (simp only [Int.reduceToNat] at ho29; rw [← Ny118.out] at ho29)); have HX119 := Aside0.mk (base_up (by repeat (first | (with_reducible first | exact HBK.out | apply below_alloc | apply pw_below_drewN | apply below_drew1) | exact HBK.out)) (Kd.R_base ho29)); have n8_ := Aside0.mk (below_step (by repeat (first | (with_reducible first | exact HBK.out | apply below_alloc | apply pw_below_drewN | apply below_drew1) | exact HBK.out)) hb); clear HBK; have HBK := n8_; clear n8_; have n0_ := Aside0.mk (Kd.S_elder' (by (with_reducible repeat (first | apply Kd.S_alloc | apply Kd.S_drewN | apply Kd.S_drew)); exact HO_7.out) (Kd.R_base ho29) hb); have n1_ := Aside0.mk (Kd.R_lower ho29 (below_size (by repeat (first | (with_reducible first | exact HB.out | apply below_alloc | apply pw_below_drewN | apply below_drew1 | refine below_set ?_ GE113.out) | exact HB.out)))); have n2_ := Aside0.mk (blk_below (g := gb113) (o := .cells #[.int .i64 ((rd_T42 l0 x16_1).f0), .int .i64 ((rd_T42 l0 x16_1).f1)] 42 (0, 0)) (by (with_reducible repeat (first | refine blk_drewN ?_ _ | refine blk_drew ?_ | refine blk_alloc ?_ _)); exact BK113.out) hb); have n3_ := Aside0.mk (below_step (by repeat (first | (with_reducible first | exact HB.out | apply below_alloc | apply pw_below_drewN | apply below_drew1 | refine below_set ?_ GE113.out) | exact HB.out)) hb); clear HO_7; clear BK113; clear HB; have HO_7 := n0_; have HO120 := n1_; have BK113 := n2_; have HB := n3_; clear n0_ n1_ n2_ n3_; clear hb ho29) | ((with_reducible refine gate_builtin (b := .append) (xs := #[.tmp 42, .tmp 43]) rfl ?_); at_builtin; refine Kd.R_append_rows (Kd.int .i64) (w0 := w) w.heap.size rfl (.tmp 42) (.tmp 43) 25 3 (.int .i64 0) 8 rfl Try.underlying25 info3 rfl (by decide) (by omega) v119 y118 (rd_L2 x7_1 x28_2) _ _ _ (fun _ => True) (fun _ => False) rfl rfl ?aO ?aR (fun _ _ h => h) (fun _ h => h.elim) ?aF ?aB ?aS ?aL ?_; (case aR => repeat (first | exact (Kd.C_below HR115_0.out HBK.out) | (with_reducible refine Kd.C_alloc ?_ _) | (with_reducible refine Kd.C_drewN ?_ _) | (with_reducible refine Kd.C_drew ?_))); (case aB => exact (by repeat (first | (with_reducible first | exact HB.out | apply below_alloc | apply pw_below_drewN | apply below_drew1 | refine below_set ?_ GE113.out) | exact HB.out))); (case aF => exact (fun _ _ => trivial)); (case aO => exact (by (with_reducible repeat (first | apply Kd.R_alloc | apply Kd.R_drewN | apply Kd.R_drew)); exact HO120.out)); (case aS => exact (below_size (by repeat (first | (with_reducible first | exact HB.out | apply below_alloc | apply pw_below_drewN | apply below_drew1 | refine below_set ?_ GE113.out) | exact HB.out)))); (case aL => have := LMc24.out; omega); intro v122 w30 ho hb hg hat; rw [← Ny121.out] at ho; have HX122 := Aside0.mk (base_at (by repeat (first | (with_reducible first | exact HBK.out | apply below_alloc | apply pw_below_drewN | apply below_drew1) | exact HBK.out)) HX119.out hat); have n8_ := Aside0.mk (bel_grown (by repeat (first | (with_reducible first | exact HBK.out | apply below_alloc | apply pw_below_drewN | apply below_drew1) | exact HBK.out)) hg HX119.out); clear HBK; have HBK := n8_; clear n8_; have n0_ := Aside0.mk (Kd.S_after (ok := (fun _ => True)) (by (with_reducible repeat (first | apply Kd.S_alloc | apply Kd.S_drewN | apply Kd.S_drew)); exact HO_7.out) hg hat); have n1_ := Aside0.mk (blk_grown (g := gb113) (o := .cells #[.int .i64 ((rd_T42 l0 x16_1).f0), .int .i64 ((rd_T42 l0 x16_1).f1)] 42 (0, 0)) (by (with_reducible repeat (first | refine blk_drewN ?_ _ | refine blk_drew ?_ | refine blk_alloc ?_ _)); exact BK113.out) hg (Kd.R_ne HO120.out BK113.out (by decide))); have n2_ := Aside0.mk (hb); have n3_ := Aside0.mk (ho); clear HO_7; clear BK113; clear HB; clear HO120; have HO_7 := n0_; have BK113 := n1_; have HB := n2_; have HO123 := n3_; clear n0_ n1_ n2_ n3_; clear ho hb hg hat) | ((with_reducible refine gate_builtin (b := .append) (xs := #[.tmp 44, .tmp 46]) rfl ?_); at_builtin; refine Kd.R_append (Kd.int .i64) (w0 := w) w.heap.size rfl (.tmp 44) (.tmp 46) 25 3 (.int .i64 0) 8 rfl Try.underlying25 info3 rfl (by decide) (by omega) v122 y121 x16_1 [.int .i64 x16_1] (fun _ => True) (fun _ => False) rfl rfl ?aP (fun _ hk => hk.elim) ?aF ?aO ?aB ?aS ?aL ?_; (case aP => exact rfl); (case aB => exact (by repeat (first | (with_reducible first | exact HB.out | apply below_alloc | apply pw_below_drewN | apply below_drew1 | refine below_set ?_ GE113.out) | exact HB.out))); (case aF => exact (fun _ _ => trivial)); (case aO => exact (by (with_reducible repeat (first | apply Kd.R_alloc | apply Kd.R_drewN | apply Kd.R_drew)); exact HO123.out)); (case aS => exact (below_size (by repeat (first | (with_reducible first | exact HB.out | apply below_alloc | apply pw_below_drewN | apply below_drew1 | refine below_set ?_ GE113.out) | exact HB.out)))); (case aL => have := LMc25.out; omega); intro v125 w31 ho hb hg hat; rw [← Ny124.out] at ho; have n8_ := Aside0.mk (bel_grown (by repeat (first | (with_reducible first | exact HBK.out | apply below_alloc | apply pw_below_drewN | apply below_drew1) | exact HBK.out)) hg HX122.out); clear HBK; have HBK := n8_; clear n8_; have n0_ := Aside0.mk (Kd.S_after (ok := (fun _ => True)) (by (with_reducible repeat (first | apply Kd.S_alloc | apply Kd.S_drewN | apply Kd.S_drew)); exact HO_7.out) hg hat); have n1_ := Aside0.mk (blk_grown (g := gb113) (o := .cells #[.int .i64 ((rd_T42 l0 x16_1).f0), .int .i64 ((rd_T42 l0 x16_1).f1)] 42 (0, 0)) (by (with_reducible repeat (first | refine blk_drewN ?_ _ | refine blk_drew ?_ | refine blk_alloc ?_ _)); exact BK113.out) hg (Kd.R_ne HO123.out BK113.out (by decide))); have n2_ := Aside0.mk (hb); have n3_ := Aside0.mk (ho); clear HO_7; clear BK113; clear HB; clear HO123; have HO_7 := n0_; have BK113 := n1_; have HB := n2_; have HO126 := n3_; clear n0_ n1_ n2_ n3_; clear ho hb hg hat; obtain ⟨Ao33, co33, eo33⟩ := Kd.R_slice HO126.out; subst eo33) | ((with_reducible refine gate_builtin (b := .append) (xs := #[.tmp 41, .tmp 48]) rfl ?_); at_builtin; refine S_append_out (Kd.slice 3 (Kd.int .i64)) (w0 := w) w.heap.size rfl (.tmp 41) (.tmp 48) 40 25 (.slice none 0 0) 24 rfl Try.underlying40 info25 rfl (by decide) (by omega) u7 x7_2 y124 [.slice Ao33 y124.length co33] (fun _ => True) (fun k_ => some k_ = (.slice Ao33 y124.length co33 : Value).ownBlock) rfl rfl ?aP (fun k_ hk_ => ((Kd.R_mono (ok' := fun k_ => ((fun _ => True)) k_ ∧ some k_ ≠ (u7 : Value).ownBlock) (Kd.R_apart' (HO126.out) (Kd.S_typed HO_7.out) (by decide)) (fun k_ hk => ⟨trivial, hk.2⟩))).1 k_ hk_.symm) ?aF ?aO ?aB ?aS ?aL ?_; (case aP => exact Kd.M_row (Kd.R_mono (Kd.R_tight rfl (Kd.R_mono (ok' := fun k_ => ((fun _ => True)) k_ ∧ some k_ ≠ (u7 : Value).ownBlock) (Kd.R_apart' (HO126.out) (Kd.S_typed HO_7.out) (by decide)) (fun k_ hk => ⟨trivial, hk.2⟩))) (fun _ h_ => h_))); (case aB => exact (by repeat (first | (with_reducible first | exact HB.out | apply below_alloc | apply pw_below_drewN | apply below_drew1 | refine below_set ?_ GE113.out) | exact HB.out))); (case aF => exact (fun _ _ => trivial)); (case aO => exact (by (with_reducible repeat (first | apply Kd.S_alloc | apply Kd.S_drewN | apply Kd.S_drew)); exact Kd.S_mono HO_7.out (fun k_ hk => ⟨trivial, fun e_ => hk.2 e_⟩))); (case aS => exact (below_size (by repeat (first | (with_reducible first | exact HB.out | apply below_alloc | apply pw_below_drewN | apply below_drew1 | refine below_set ?_ GE113.out) | exact HB.out)))); (case aL => have := LMc26.out; omega); intro v128 w32 ho hb hg hat; have AL2 := Aside0.mk (al_out (p := y124) (al_below AL.out (by repeat (first | (with_reducible first | exact HBK.out | apply below_alloc | apply pw_below_drewN | apply below_drew1) | exact HBK.out))) (by (with_reducible repeat (first | apply Kd.S_alloc | apply Kd.S_drewN | apply Kd.S_drew)); exact HO_7.out) hg hat); rw [← Ny127.out] at AL2; rw [← Ny127.out] at ho; have n0_ := Aside0.mk (blk_grown (g := gb113) (o := .cells #[.int .i64 ((rd_T42 l0 x16_1).f0), .int .i64 ((rd_T42 l0 x16_1).f1)] 42 (0, 0)) (by (with_reducible repeat (first | refine blk_drewN ?_ _ | refine blk_drew ?_ | refine blk_alloc ?_ _)); exact BK113.out) hg (Kd.S_ne HO_7.out BK113.out (by decide))); have n1_ := Aside0.mk (hb); have n2_ := Aside0.mk (ho); clear BK113; clear HB; clear HO_7; clear HO126; have BK113 := n0_; have HB := n1_; have HO129 := n2_; clear n0_ n1_ n2_; clear ho hb hg hat))
                go_roundg k2
                case measure => have := HK1.out; have := HK2.out; omega
                case rel => exact ⟨(y127), (wrap64 (x28_2 + 1)), (by first | rfl | (simp; done) | (simp [*]; done)), H', ⟨by have := HK1.out; have := HK2.out; omega⟩, ⟨by (with_reducible repeat (first | apply Kd.S_alloc | apply Kd.S_drewN | apply Kd.S_drew)); exact HO129.out⟩, AL2, ⟨by (with_reducible repeat (first | refine blk_drewN ?_ _ | refine blk_drew ?_ | refine blk_alloc ?_ _)); exact BK113.out⟩, ⟨by repeat (first | (with_reducible first | exact HB.out | apply below_alloc | apply pw_below_drewN | apply below_drew1 | refine below_set ?_ GE113.out) | exact HB.out)⟩⟩
               ·rw [if_neg c26] at H
                exact absurd H (by simp)
              ·rw [if_neg c25] at H
               exact absurd H (by simp)
             ·rw [if_neg c24] at H
              exact absurd H (by simp)
            ·rw [if_neg c23] at H
             have c23b0 : decide ((wrap64 (t116 + t114)) ≤ t117) = false := decide_eq_false c23
             clear c23
             have H' := Aside0.mk H
             clear H
             have p115 : 0 ≤ (x28_2 : Int) := of_decide_eq_true (by first | (with_reducible assumption) | assumption)
             have q115 : x28_2 < (x7_1.length : Int) := of_decide_eq_true (by first | (with_reducible assumption) | assumption)
             obtain ⟨ad115, A115_0, c115_0, e115, hx115_0, hl115_0, hi115_0⟩ := at_L2 HR3.out x28_2 p115 q115
             cases e115
             have HR115_0 := Aside0.mk hi115_0
             have HC115_0 := Aside0.mk hl115_0
             clear hi115_0 hl115_0
             replace p115 := eq_true p115
             replace q115 := eq_true q115
             go_wp2_with (first | ((with_reducible refine gate_callee (f := 12) rfl ?_); refine goesL_ (some 35) rfl rfl Try.func12 (by kernel_rfl) rfl #[.slice (some ad112) l0.length c0, .slice A115_0 (rd_L2 x7_1 x28_2).length c115_0, .int .i64 a2] rfl (by (try simp only [List.map_toArray, List.map_cons, List.map_nil]); first | done | rfl | (simp only [List.length_drop, List.length_take]; rfl)) ?_; (with_reducible refine (almshouseref41_Sum.calls k2 _ _ l0 _ _ (rd_L2 x7_1 x28_2) a2 t116 _ ?side1 ?side2 ?side3 ?side4 A21.out).mono ?_); (case side1 => repeat (first | exact (Kd.C_below HR0.out HB.out) | (with_reducible refine Kd.C_alloc ?_ _) | (with_reducible refine Kd.C_drewN ?_ _) | (with_reducible refine Kd.C_drew ?_))); (case side2 => exact HC0.out); (case side3 => repeat (first | exact (Kd.C_below HR115_0.out HBK.out) | (with_reducible refine Kd.C_alloc ?_ _) | (with_reducible refine Kd.C_drewN ?_ _) | (with_reducible refine Kd.C_drew ?_))); (case side4 => exact HC115_0.out); rintro e w34 ⟨rfl, hb⟩; refine ⟨_, rfl, ?_⟩; have n8_ := Aside0.mk (below_step (by repeat (first | (with_reducible first | exact HBK.out | apply below_alloc | apply pw_below_drewN | apply below_drew1) | exact HBK.out)) hb); clear HBK; have HBK := n8_; clear n8_; have n0_ := Aside0.mk (Kd.S_below (by (with_reducible repeat (first | apply Kd.S_alloc | apply Kd.S_drewN | apply Kd.S_drew)); exact HO_7.out) hb); have n1_ := Aside0.mk (blk_below (g := gb113) (o := .cells #[.int .i64 ((rd_T42 l0 x16_1).f0), .int .i64 ((rd_T42 l0 x16_1).f1)] 42 (0, 0)) (by (with_reducible repeat (first | refine blk_drewN ?_ _ | refine blk_drew ?_ | refine blk_alloc ?_ _)); exact BK113.out) hb); have n2_ := Aside0.mk (below_step (by repeat (first | (with_reducible first | exact HB.out | apply below_alloc | apply pw_below_drewN | apply below_drew1 | refine below_set ?_ GE113.out) | exact HB.out)) hb); clear HO_7; clear BK113; clear HB; have HO_7 := n0_; have BK113 := n1_; have HB := n2_; clear n0_ n1_ n2_; (try clear hb); (try clear hb2); (try clear hk); (try clear hi)) | ((with_reducible refine gate_callee (f := 25) rfl ?_); refine goesL_ (some 39) rfl rfl Try.func25 (by kernel_rfl) rfl #[.int .i64 a1] rfl (by (try simp only [List.map_toArray, List.map_cons, List.map_nil]); first | done | rfl | (simp only [List.length_drop, List.length_take]; rfl)) ?_; (with_reducible refine (almshouseref41_room.calls a1 t117 _ A22.out).mono ?_); rintro e w' ⟨rfl, ⟨nd, rfl⟩⟩; refine ⟨_, rfl, ?_⟩))
             go_roundg k2
             case measure => have := HK1.out; have := HK2.out; omega
             case rel => exact ⟨(x7_2), (wrap64 (x28_2 + 1)), (by first | rfl | (simp; done) | (simp [*]; done)), H', ⟨by have := HK1.out; have := HK2.out; omega⟩, ⟨by (with_reducible repeat (first | apply Kd.S_alloc | apply Kd.S_drewN | apply Kd.S_drew)); exact HO_7.out⟩, ⟨al_below AL.out (by repeat (first | (with_reducible first | exact HBK.out | apply below_alloc | apply pw_below_drewN | apply below_drew1) | exact HBK.out))⟩, ⟨by (with_reducible repeat (first | refine blk_drewN ?_ _ | refine blk_drew ?_ | refine blk_alloc ?_ _)); exact BK113.out⟩, ⟨by repeat (first | (with_reducible first | exact HB.out | apply below_alloc | apply pw_below_drewN | apply below_drew1 | refine below_set ?_ GE113.out) | exact HB.out)⟩⟩
           ·rw [if_neg c20] at H
            exact absurd H (by simp)
          ·rw [if_neg c19] at H
           exact absurd H (by simp)
         ·rw [if_neg c18] at H
          have c18b0 : decide (x28_2 < (x7_1.length : Int)) = false := decide_eq_false c18
          clear c18
          (try simp only [hl115_0] at c18b0)
          have H' := Aside0.mk H
          clear H
          go_wp2
          go_roundg k2
          case measure => have := HK1.out; have := HK2.out; omega
          case rel => exact ⟨(x7_2), (wrap64 (x16_1 + 1)), (by first | rfl | (simp; done) | (simp [*]; done)), H', ⟨by have := HK1.out; have := HK2.out; omega⟩, ⟨by (with_reducible repeat (first | apply Kd.S_alloc | apply Kd.S_drewN | apply Kd.S_drew)); exact HO_7.out⟩, ⟨by repeat (first | (with_reducible first | exact HB.out | apply below_alloc | apply pw_below_drewN | apply below_drew1 | refine below_set ?_ GE113.out) | exact HB.out)⟩⟩
     ·rw [if_neg c9] at H
      exact absurd H (by simp)
    ·rw [if_neg c8] at H
     exact absurd H (by simp)
   ·rw [if_neg c7] at H
    have c7b0 : decide (x16_1 < (l0.length : Int)) = false := decide_eq_false c7
    clear c7
    (try simp only [hl115_0] at c7b0)
    obtain rfl := Option.some.inj H
    go_wp2
    go_ret
    exact ⟨_, by first | rfl | (simp [errW_none, errW_some] <;> rfl) | (simp [*, errW_none, errW_some] <;> rfl), by (with_reducible repeat (first | apply Kd.S_alloc | apply Kd.S_drewN | apply Kd.S_drew)); exact HO_7.out, by repeat (first | (with_reducible first | exact HB.out | apply below_alloc | apply pw_below_drewN | apply below_drew1) | exact HB.out)⟩
end Go.Proofs.Ytpcpllabegfdjaa.X
