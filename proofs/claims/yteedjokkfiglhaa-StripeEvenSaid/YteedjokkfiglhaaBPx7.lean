-- Cut by a program of this session (wip/pr/pack.py) to what one claim needs.
import Derived.Test.YteedjokkfiglhaaBPx0
namespace Go.Proofs.Yteedjokkfiglhaa.P
open Go.RowKit Go.Proofs.YteedjokkfiglhaaW.PrintWords Go.Proofs.YteedjokkfiglhaaW.PrintLast Go.Proofs.YteedjokkfiglhaaW.PrintMore
attribute [local go_sem] max2_int min2_int max_two min_two max_three min_three max_four min_four
set_option linter.unusedVariables false
set_option linter.unusedSimpArgs false
def almshouseref37_has.l0 : Nat → Int → List Int → Int → Int → Option (Bool)
 | 0, _, _, _, _ => none
 | k + 1, x1, x7, x8, x9 => if x9 < x8 then (if 0 ≤ x9 then (if x9 < (x7.length : Int) then (if (rd x7 x9) = x1 then (some true) else (almshouseref37_has.l0 k x1 x7 x8 (wrap64 (x9 + 1)))) else (none)) else (none)) else (some false)
def almshouseref37_has.f (k : Nat) (l0 : List Int) (a1 : Int) : Option (Bool) := almshouseref37_has.l0 k a1 l0 (l0.length : Int) 0
set_option maxHeartbeats 8000000 in
set_option maxRecDepth 100000 in
theorem almshouseref37_has.calls (k : Nat) (A0 : Option Addr) (c0 : Nat) (l0 : List Int) (a1 : Int) (r : Bool) (w : World) (hr0 : Kd.C (Kd.int .i64) w A0 l0.length l0) (hc0 : l0.length ≤ c0) (h : almshouseref37_has.f k l0 a1 = some r) :
  Calls Try.prog 22 #[.slice A0 l0.length c0, .int .i64 a1] w fun e w' => e = .returned (.bool r) ∧ Drawn0 w w' := by
 have HR0 := Aside0.mk hr0
 have HC0 := Aside0.mk hc0
 clear hr0 hc0
 have H : (almshouseref37_has.l0 k a1 l0 (l0.length : Int) 0) = some r := h
 clear h
 have H' := Aside0.mk H
 clear H
 go_enter Try.func22, Try.ntmps22
 go_wp2
 go_loopg [9] k (fun kq v9 w' => ∃ (x9_1 : Int), v9 = .int .i64 x9_1 ∧ Aside0 (almshouseref37_has.l0 kq a1 l0 (l0.length : Int) x9_1 = some r) ∧ Aside0 (kq ≤ k) ∧ Drawn0 w w')
 case atStart => exact ⟨(0), (by first | rfl | (simp; done) | (simp [*]; done)), H', ⟨Nat.le_refl _⟩, by repeat (first | exact Drawn0.refl _ | apply Drawn0.step)⟩
 case round =>
  clear H'
  try clear c2
  try clear p2
  obtain ⟨x9_1, rfl, HA, HK1, ⟨m1, rfl⟩⟩ := hrel
  cases gk with
  | zero => exact absurd HA.out (by simp [almshouseref37_has.l0])
  | succ k1 =>
   have H := HA.out
   clear HA
   simp only [almshouseref37_has.l0] at H
   by_cases c3 : x9_1 < (l0.length : Int)
   ·rw [if_pos c3] at H
    have c3b0 : decide (x9_1 < (l0.length : Int)) = true := decide_eq_true c3
    clear c3
    by_cases c4 : 0 ≤ x9_1
    ·rw [if_pos c4] at H
     have c4b0 : decide (0 ≤ x9_1) = true := decide_eq_true c4
     clear c4
     by_cases c5 : x9_1 < (l0.length : Int)
     ·rw [if_pos c5] at H
      have c5b0 : decide (x9_1 < (l0.length : Int)) = true := decide_eq_true c5
      clear c5
      by_cases c6 : (rd l0 x9_1) = a1
      ·rw [if_pos c6] at H
       have c6b0 : ((rd l0 x9_1) == a1) = true := beq_iff_eq.mpr c6
       have c6b1 : ((rd l0 x9_1) != a1) = false := bne_eq_false_iff_eq.mpr c6
       clear c6
       obtain rfl := Option.some.inj H
       have p209 : 0 ≤ (x9_1 : Int) := of_decide_eq_true (by first | (with_reducible assumption) | assumption)
       have q209 : x9_1 < (l0.length : Int) := of_decide_eq_true (by first | (with_reducible assumption) | assumption)
       obtain ⟨ad209, e209, hx209_0⟩ := Kd.at_int HR0.out x9_1 p209 q209
       cases e209
       replace p209 := eq_true p209
       replace q209 := eq_true q209
       go_wp2
       go_ret
       exact ⟨by first | rfl | (simp; done) | (simp [*]; done), by repeat (first | exact Drawn0.refl _ | apply Drawn0.step)⟩
      ·rw [if_neg c6] at H
       have c6b0 : ((rd l0 x9_1) == a1) = false := beq_eq_false_iff_ne.mpr c6
       have c6b1 : ((rd l0 x9_1) != a1) = true := bne_iff_ne.mpr c6
       have H' := Aside0.mk H
       clear H
       have p209 : 0 ≤ (x9_1 : Int) := of_decide_eq_true (by first | (with_reducible assumption) | assumption)
       have q209 : x9_1 < (l0.length : Int) := of_decide_eq_true (by first | (with_reducible assumption) | assumption)
       obtain ⟨ad209, e209, hx209_0⟩ := Kd.at_int HR0.out x9_1 p209 q209
       cases e209
       replace p209 := eq_true p209
       replace q209 := eq_true q209
       go_wp2
       go_roundg k1
       case measure => have := HK1.out; omega
       case rel => exact ⟨(wrap64 (x9_1 + 1)), (by first | rfl | (simp; done) | (simp [*]; done)), H', ⟨by have := HK1.out; omega⟩, by repeat (first | exact Drawn0.refl _ | apply Drawn0.step)⟩
     ·rw [if_neg c5] at H
      exact absurd H (by simp)
    ·rw [if_neg c4] at H
     exact absurd H (by simp)
   ·rw [if_neg c3] at H
    have c3b0 : decide (x9_1 < (l0.length : Int)) = false := decide_eq_false c3
    clear c3
    obtain rfl := Option.some.inj H
    go_wp2
    go_ret
    exact ⟨by first | rfl | (simp; done) | (simp [*]; done), by repeat (first | exact Drawn0.refl _ | apply Drawn0.step)⟩
def almshouseref37_Lane.l0 : Nat → List Int → List Int → Int → Int → Int → Int → Int → Option (List Int)
 | 0, _, _, _, _, _, _, _ => none
 | k + 1, x1, x7, x8, x211000, x211001, x211002, x211003 => if x8 < (wrap64 ((wrap64 (x211000 * x211001)) * x211002)) then ((almshouseref37_has.f k x1 x8).bind fun t211 => (if t211 = true then (if x7.length < 17592186044416 then (almshouseref37_Lane.l0 k x1 (x7 ++ [x8]) (wrap64 (x8 + x211000)) x211000 x211001 x211002 x211003) else (none)) else (almshouseref37_Lane.l0 k x1 x7 (wrap64 (x8 + x211000)) x211000 x211001 x211002 x211003))) else (some x7)
def almshouseref37_Lane.f (k : Nat) (a0_0 : Int) (a0_1 : Int) (a0_2 : Int) (a0_3 : Int) (l1 : List Int) (a2 : Int) : Option (List Int) := almshouseref37_Lane.l0 k l1 ([] : List Int) a2 a0_0 a0_1 a0_2 a0_3
set_option maxHeartbeats 8000000 in
set_option maxRecDepth 100000 in
theorem almshouseref37_Lane.calls (k : Nat) (a0_0 : Int) (a0_1 : Int) (a0_2 : Int) (a0_3 : Int) (A1 : Option Addr) (c1 : Nat) (l1 : List Int) (a2 : Int) (r : List Int) (w : World) (hr1 : Kd.C (Kd.int .i64) w A1 l1.length l1) (hc1 : l1.length ≤ c1) (h : almshouseref37_Lane.f k a0_0 a0_1 a0_2 a0_3 l1 a2 = some r) :
  Calls Try.prog 15 #[.agg #[.int .i64 a0_0, .int .i64 a0_1, .int .i64 a0_2, .int .i64 a0_3], .slice A1 l1.length c1, .int .i64 a2] w fun e w' => ∃ v0_ : Value, e = .returned (v0_) ∧ Kd.R (Kd.int .i64) 3 w' w.heap.size (fun _ => True) v0_ r ∧ Below w.heap.size w w' := by
 have hu23 := Try.underlying23
 have HR1 := Aside0.mk hr1
 have HC1 := Aside0.mk hc1
 clear hr1 hc1
 have HB := Aside0.mk (Below.refl w.heap.size w)
 have H : (almshouseref37_Lane.l0 k l1 ([] : List Int) a2 a0_0 a0_1 a0_2 a0_3) = some r := h
 clear h
 have H' := Aside0.mk H
 clear H
 go_enter Try.func15, Try.ntmps15
 go_wp2_with (first | ((with_reducible refine gate_dst (N := 3) rfl ?_); refine box_event ?hg (N := 3) ?hd (cs := #[.int .i64 a0_0, .int .i64 a0_1, .int .i64 a0_2, .int .i64 a0_3]) (t := 23) ?hr ?_; (case hd => rfl); (case hg => rfl); (case hr => first | (go_simp; done) | (go_simp; rfl)); intro gb210 hg w4 hbox hb; have n0_ := Aside0.mk (below_step (by repeat (first | (with_reducible first | exact HB.out | apply below_alloc | apply pw_below_drewN | apply below_drew1) | exact HB.out)) hb); have n1_ := Aside0.mk (hbox); have n2_ := Aside0.mk ((by rw [hg]; exact (below_size (by repeat (first | (with_reducible first | exact HB.out | apply below_alloc | apply pw_below_drewN | apply below_drew1) | exact HB.out))) : w.heap.size ≤ gb210)); have n3_ := Aside0.mk ((by rw [hg]; exact (below_size (by repeat (first | (with_reducible first | exact HB.out | apply below_alloc | apply pw_below_drewN | apply below_drew1) | exact HB.out))) : w.heap.size ≤ gb210)); clear HB; have HB := n0_; have BK210 := n1_; have GW210 := n2_; have GE210 := n3_; clear n0_ n1_ n2_ n3_; clear hb hbox hg))
 go_loopg [7, 8] k (fun kq v7 v8 w' => ∃ (x7_1 : List Int) (x8_1 : Int), v8 = .int .i64 x8_1 ∧ Aside0 (almshouseref37_Lane.l0 kq l1 x7_1 x8_1 a0_0 a0_1 a0_2 a0_3 = some r) ∧ Aside0 (kq ≤ k) ∧ Aside0 (Kd.R (Kd.int .i64) 3 w' w.heap.size (fun _ => True) v7 x7_1) ∧ Aside0 (w'.heap[gb210]? = some (.cells #[.int .i64 a0_0, .int .i64 a0_1, .int .i64 a0_2, .int .i64 a0_3] 23 (0, 0))) ∧ Aside0 (Below w.heap.size w w'))
 case atStart => exact ⟨(([] : List Int)), (a2), (by first | rfl | (simp; done) | (simp [*]; done)), H', ⟨Nat.le_refl _⟩, ⟨by first | exact Kd.R_nil _ _ _ _ _ | exact Kd.N_nil _ _ _ _ _ | exact Kd.V_nil _ _ _ _ _ | exact Kd.Q_nil _ _ _ _ _ | exact Kd.S_nil _ _ _ _ _⟩, ⟨by (with_reducible repeat (first | refine blk_drewN ?_ _ | refine blk_drew ?_ | refine blk_alloc ?_ _)); exact BK210.out⟩, ⟨by repeat (first | (with_reducible first | exact HB.out | apply below_alloc | apply pw_below_drewN | apply below_drew1 | refine below_set ?_ GE210.out) | exact HB.out)⟩⟩
 case round =>
  clear H'
  try clear c1
  try clear p2
  obtain ⟨x7_1, x8_1, rfl, HA, HK1, HO_7, BK210, HB⟩ := hrel
  cases gk with
  | zero => exact absurd HA.out (by simp [almshouseref37_Lane.l0])
  | succ k1 =>
   have H := HA.out
   clear HA
   simp only [almshouseref37_Lane.l0] at H
   by_cases c5 : x8_1 < (wrap64 ((wrap64 (a0_0 * a0_1)) * a0_2))
   ·rw [if_pos c5] at H
    have c5b0 : decide (x8_1 < (wrap64 ((wrap64 (a0_0 * a0_1)) * a0_2))) = true := decide_eq_true c5
    clear c5
    replace H := Option.bind_eq_some_iff.mp H
    obtain ⟨t211, A60, H⟩ := H
    replace H : (if t211 = true then (if x7_1.length < 17592186044416 then (almshouseref37_Lane.l0 k1 l1 (x7_1 ++ [x8_1]) (wrap64 (x8_1 + a0_0)) a0_0 a0_1 a0_2 a0_3) else (none)) else (almshouseref37_Lane.l0 k1 l1 x7_1 (wrap64 (x8_1 + a0_0)) a0_0 a0_1 a0_2 a0_3)) = some r := H
    have A6 := Aside0.mk A60
    clear A60
    by_cases c7 : t211 = true
    ·subst c7
     have H1 : (if x7_1.length < 17592186044416 then (almshouseref37_Lane.l0 k1 l1 (x7_1 ++ [x8_1]) (wrap64 (x8_1 + a0_0)) a0_0 a0_1 a0_2 a0_3) else (none)) = some r := by rw [if_pos rfl] at H; exact H
     clear H
     have H := H1
     clear H1
     by_cases c8 : x7_1.length < 17592186044416
     ·rw [if_pos c8] at H
      have LMc8 := Aside0.mk c8
      clear c8
      obtain ⟨y212, hy212⟩ : ∃ y_ : List Int, y_ = (x7_1 ++ [x8_1]) := ⟨_, rfl⟩
      replace H : (almshouseref37_Lane.l0 k1 l1 y212 (wrap64 (x8_1 + a0_0)) a0_0 a0_1 a0_2 a0_3) = some r := by first | (rw [hy212]; with_reducible exact H) | (have H2_ := (Option.bind_some _ _).symm.trans H; rw [hy212]; with_reducible exact H2_) | (have H2_ := (Option.bind_some _ _).symm.trans H; with_reducible exact H2_) | with_reducible exact H | (rw [hy212]; exact H) | exact H
      have Ny212 := Aside0.mk hy212
      clear hy212
      have H' := Aside0.mk H
      clear H
      have hcz9_0 : wr.cell? ⟨gb210, 0, none⟩ = some (.int .i64 a0_0) := (blk_cell BK210.out 0).trans rfl
      have hcz9_1 : wr.cell? ⟨gb210, 1, none⟩ = some (.int .i64 a0_1) := (blk_cell BK210.out 1).trans rfl
      have hcz9_2 : wr.cell? ⟨gb210, 2, none⟩ = some (.int .i64 a0_2) := (blk_cell BK210.out 2).trans rfl
      have hcz9_3 : wr.cell? ⟨gb210, 3, none⟩ = some (.int .i64 a0_3) := (blk_cell BK210.out 3).trans rfl
      have hfz9_0 := blk_frozen BK210.out 0
      have hfz9_1 := blk_frozen BK210.out 1
      have hfz9_2 := blk_frozen BK210.out 2
      have hfz9_3 := blk_frozen BK210.out 3
      go_wp2_with (first | ((with_reducible refine gate_callee (f := 22) rfl ?_); refine goesL_ (some 26) rfl rfl Try.func22 (by kernel_rfl) rfl #[.slice A1 l1.length c1, .int .i64 x8_1] rfl (by (try simp only [List.map_toArray, List.map_cons, List.map_nil]); first | done | rfl | (simp only [List.length_drop, List.length_take]; rfl)) ?_; (with_reducible refine (almshouseref37_has.calls k1 _ _ l1 x8_1 true _ ?side1 ?side2 A6.out).mono ?_); (case side1 => repeat (first | exact (Kd.C_below HR1.out HB.out) | (with_reducible refine Kd.C_alloc ?_ _) | (with_reducible refine Kd.C_drewN ?_ _) | (with_reducible refine Kd.C_drew ?_))); (case side2 => exact HC1.out); rintro e w' ⟨rfl, ⟨nd, rfl⟩⟩; refine ⟨_, rfl, ?_⟩) | ((with_reducible refine gate_builtin (b := .append) (xs := #[.tmp 27, .tmp 29]) rfl ?_); at_builtin; refine Kd.R_append (Kd.int .i64) (w0 := w) w.heap.size rfl (.tmp 27) (.tmp 29) 24 3 (.int .i64 0) 8 rfl Try.underlying24 info3 rfl (by decide) (by omega) u7 x7_1 x8_1 [.int .i64 x8_1] (fun _ => True) (fun _ => False) rfl rfl ?aP (fun _ hk => hk.elim) ?aF ?aO ?aB ?aS ?aL ?_; (case aP => exact rfl); (case aB => exact (by repeat (first | (with_reducible first | exact HB.out | apply below_alloc | apply pw_below_drewN | apply below_drew1 | refine below_set ?_ GE210.out) | exact HB.out))); (case aF => exact (fun _ _ => trivial)); (case aO => exact (by (with_reducible repeat (first | apply Kd.R_alloc | apply Kd.R_drewN | apply Kd.R_drew)); exact HO_7.out)); (case aS => exact (below_size (by repeat (first | (with_reducible first | exact HB.out | apply below_alloc | apply pw_below_drewN | apply below_drew1 | refine below_set ?_ GE210.out) | exact HB.out)))); (case aL => have := LMc8.out; omega); intro v213 w10 ho hb hg hat; rw [← Ny212.out] at ho; have n0_ := Aside0.mk (blk_grown (g := gb210) (o := .cells #[.int .i64 a0_0, .int .i64 a0_1, .int .i64 a0_2, .int .i64 a0_3] 23 (0, 0)) (by (with_reducible repeat (first | refine blk_drewN ?_ _ | refine blk_drew ?_ | refine blk_alloc ?_ _)); exact BK210.out) hg (Kd.R_ne HO_7.out BK210.out (by decide))); have n1_ := Aside0.mk (hb); have n2_ := Aside0.mk (ho); clear BK210; clear HB; clear HO_7; have BK210 := n0_; have HB := n1_; have HO214 := n2_; clear n0_ n1_ n2_; clear ho hb hg hat; have hcz11_0 : w10.cell? ⟨gb210, 0, none⟩ = some (.int .i64 a0_0) := (blk_cell BK210.out 0).trans rfl; have hcz11_1 : w10.cell? ⟨gb210, 1, none⟩ = some (.int .i64 a0_1) := (blk_cell BK210.out 1).trans rfl; have hcz11_2 : w10.cell? ⟨gb210, 2, none⟩ = some (.int .i64 a0_2) := (blk_cell BK210.out 2).trans rfl; have hcz11_3 : w10.cell? ⟨gb210, 3, none⟩ = some (.int .i64 a0_3) := (blk_cell BK210.out 3).trans rfl; have hfz11_0 := blk_frozen BK210.out 0; have hfz11_1 := blk_frozen BK210.out 1; have hfz11_2 := blk_frozen BK210.out 2; have hfz11_3 := blk_frozen BK210.out 3))
      go_roundg k1
      case measure => have := HK1.out; omega
      case rel => exact ⟨(y212), (wrap64 (x8_1 + a0_0)), (by first | rfl | (simp; done) | (simp [*]; done)), H', ⟨by have := HK1.out; omega⟩, ⟨by (with_reducible repeat (first | apply Kd.R_alloc | apply Kd.R_drewN | apply Kd.R_drew)); exact HO214.out⟩, ⟨by (with_reducible repeat (first | refine blk_drewN ?_ _ | refine blk_drew ?_ | refine blk_alloc ?_ _)); exact BK210.out⟩, ⟨by repeat (first | (with_reducible first | exact HB.out | apply below_alloc | apply pw_below_drewN | apply below_drew1 | refine below_set ?_ GE210.out) | exact HB.out)⟩⟩
     ·rw [if_neg c8] at H
      exact absurd H (by simp)
    ·replace c7 := Bool.eq_false_iff.mpr c7
     subst c7
     have H1 : (almshouseref37_Lane.l0 k1 l1 x7_1 (wrap64 (x8_1 + a0_0)) a0_0 a0_1 a0_2 a0_3) = some r := by rw [if_neg (show ¬ (false = true) by decide)] at H; exact H
     clear H
     have H := H1
     clear H1
     have H' := Aside0.mk H
     clear H
     have hcz12_0 : wr.cell? ⟨gb210, 0, none⟩ = some (.int .i64 a0_0) := (blk_cell BK210.out 0).trans rfl
     have hcz12_1 : wr.cell? ⟨gb210, 1, none⟩ = some (.int .i64 a0_1) := (blk_cell BK210.out 1).trans rfl
     have hcz12_2 : wr.cell? ⟨gb210, 2, none⟩ = some (.int .i64 a0_2) := (blk_cell BK210.out 2).trans rfl
     have hcz12_3 : wr.cell? ⟨gb210, 3, none⟩ = some (.int .i64 a0_3) := (blk_cell BK210.out 3).trans rfl
     have hfz12_0 := blk_frozen BK210.out 0
     have hfz12_1 := blk_frozen BK210.out 1
     have hfz12_2 := blk_frozen BK210.out 2
     have hfz12_3 := blk_frozen BK210.out 3
     go_wp2_with (first | ((with_reducible refine gate_callee (f := 22) rfl ?_); refine goesL_ (some 26) rfl rfl Try.func22 (by kernel_rfl) rfl #[.slice A1 l1.length c1, .int .i64 x8_1] rfl (by (try simp only [List.map_toArray, List.map_cons, List.map_nil]); first | done | rfl | (simp only [List.length_drop, List.length_take]; rfl)) ?_; (with_reducible refine (almshouseref37_has.calls k1 _ _ l1 x8_1 false _ ?side1 ?side2 A6.out).mono ?_); (case side1 => repeat (first | exact (Kd.C_below HR1.out HB.out) | (with_reducible refine Kd.C_alloc ?_ _) | (with_reducible refine Kd.C_drewN ?_ _) | (with_reducible refine Kd.C_drew ?_))); (case side2 => exact HC1.out); rintro e w' ⟨rfl, ⟨nd, rfl⟩⟩; refine ⟨_, rfl, ?_⟩))
     go_roundg k1
     case measure => have := HK1.out; omega
     case rel => exact ⟨(x7_1), (wrap64 (x8_1 + a0_0)), (by first | rfl | (simp; done) | (simp [*]; done)), H', ⟨by have := HK1.out; omega⟩, ⟨by (with_reducible repeat (first | apply Kd.R_alloc | apply Kd.R_drewN | apply Kd.R_drew)); exact HO_7.out⟩, ⟨by (with_reducible repeat (first | refine blk_drewN ?_ _ | refine blk_drew ?_ | refine blk_alloc ?_ _)); exact BK210.out⟩, ⟨by repeat (first | (with_reducible first | exact HB.out | apply below_alloc | apply pw_below_drewN | apply below_drew1 | refine below_set ?_ GE210.out) | exact HB.out)⟩⟩
   ·rw [if_neg c5] at H
    have c5b0 : decide (x8_1 < (wrap64 ((wrap64 (a0_0 * a0_1)) * a0_2))) = false := decide_eq_false c5
    clear c5
    obtain rfl := Option.some.inj H
    have hcz13_0 : wr.cell? ⟨gb210, 0, none⟩ = some (.int .i64 a0_0) := (blk_cell BK210.out 0).trans rfl
    have hcz13_1 : wr.cell? ⟨gb210, 1, none⟩ = some (.int .i64 a0_1) := (blk_cell BK210.out 1).trans rfl
    have hcz13_2 : wr.cell? ⟨gb210, 2, none⟩ = some (.int .i64 a0_2) := (blk_cell BK210.out 2).trans rfl
    have hcz13_3 : wr.cell? ⟨gb210, 3, none⟩ = some (.int .i64 a0_3) := (blk_cell BK210.out 3).trans rfl
    have hfz13_0 := blk_frozen BK210.out 0
    have hfz13_1 := blk_frozen BK210.out 1
    have hfz13_2 := blk_frozen BK210.out 2
    have hfz13_3 := blk_frozen BK210.out 3
    go_wp2
    go_ret
    exact ⟨_, by first | rfl | (simp [errW_none, errW_some] <;> rfl) | (simp [*, errW_none, errW_some] <;> rfl), by (with_reducible repeat (first | apply Kd.R_alloc | apply Kd.R_drewN | apply Kd.R_drew)); exact HO_7.out, by repeat (first | (with_reducible first | exact HB.out | apply below_alloc | apply pw_below_drewN | apply below_drew1 | refine below_set ?_ GE210.out) | exact HB.out)⟩
end Go.Proofs.Yteedjokkfiglhaa.P
