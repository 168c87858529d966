-- Cut by a program of this session (wip/pr/pack.py) to what one claim needs.
import Derived.Test.YtpcpllabegfdjaaBXF
import Derived.Test.YtpcpllabegfdjaaBPx10
import Derived.Test.YtpcpllabegfdjaaBPx14
import Derived.Test.YtpcpllabegfdjaaBPx15
import Derived.Test.YtpcpllabegfdjaaBPx23
namespace Go.Proofs.Ytpcpllabegfdjaa.X
open Go.RowKit Go.Proofs.YtpcpllabegfdjaaW.PrintWords Go.Proofs.YtpcpllabegfdjaaW.PrintLast Go.Proofs.YtpcpllabegfdjaaW.PrintMore Go.Proofs.Ytpcpllabegfdjaa.P
attribute [local go_sem] max2_int min2_int max_two min_two max_three min_three max_four min_four
set_option linter.unusedVariables false
set_option linter.unusedSimpArgs false
mutual
def almshouselaw41_QuotaFullest.j0 : Nat → List (S34) → Int → Int → Bool → Option (Bool)
 | 0, _, _, _, _ => none
 | k + 1, x0, x1, x2, x19 => if x19 = true then (if 7 ≤ (x0.length : Int) then (almshouselaw41_QuotaFullest.j1 k (x0.take 7) x1 x2) else (none)) else (almshouselaw41_QuotaFullest.j1 k x0 x1 x2)
def almshouselaw41_QuotaFullest.j1 : Nat → List (S34) → Int → Int → Option (Bool)
 | 0, _, _, _ => none
 | k + 1, x0, x1, x2 => (quota_Fullest.f k x0 x1 x2).bind fun t172 => ((almshouselaw41_wishes.f k x0).bind fun t175 => ((almshouseref41_Fullest.f k t175 x1 x2).bind fun t178 => ((almshouselaw41_same.f k t172 t178).bind fun t181 => (some t181))))
end
def almshouselaw41_QuotaFullest.f (k : Nat) (l0 : List (S34)) (a1 : Int) (a2 : Int) : Option (Bool) := (almshouselaw41_fixed.f k).bind fun t167 => (if t167 = true then (if (l0.length : Int) > 14 then (some true) else (if (l0.length : Int) > 7 then (almshouselaw41_QuotaFullest.j0 k l0 a1 a2 (decide ((l0.length : Int) ≤ 12))) else (almshouselaw41_QuotaFullest.j0 k l0 a1 a2 false))) else (some false))
set_option maxHeartbeats 8000000 in
set_option maxRecDepth 100000 in
theorem almshouselaw41_QuotaFullest.calls (k : Nat) (A0 : Option Addr) (c0 : Nat) (l0 : List (S34)) (a1 : Int) (a2 : Int) (r : Bool) (w : World) (hr0 : Kd.C k34 w A0 l0.length l0) (hc0 : l0.length ≤ c0) (h : almshouselaw41_QuotaFullest.f k l0 a1 a2 = some r) :
  Calls Try.prog 3 #[.slice A0 l0.length c0, .int .i64 a1, .int .i64 a2] w fun e w' => e = .returned (.bool r) ∧ Below w.heap.size w w' := by
 have HR0 := Aside0.mk hr0
 have HC0 := Aside0.mk hc0
 clear hr0 hc0
 have HB := Aside0.mk (Below.refl w.heap.size w)
 have H : ((almshouselaw41_fixed.f k).bind fun t167 => (if t167 = true then (if (l0.length : Int) > 14 then (some true) else (if (l0.length : Int) > 7 then (almshouselaw41_QuotaFullest.j0 k l0 a1 a2 (decide ((l0.length : Int) ≤ 12))) else (almshouselaw41_QuotaFullest.j0 k l0 a1 a2 false))) else (some false))) = some r := h
 clear h
 replace H := Option.bind_eq_some_iff.mp H
 obtain ⟨t167, A40, H⟩ := H
 replace H : (if t167 = true then (if (l0.length : Int) > 14 then (some true) else (if (l0.length : Int) > 7 then (almshouselaw41_QuotaFullest.j0 k l0 a1 a2 (decide ((l0.length : Int) ≤ 12))) else (almshouselaw41_QuotaFullest.j0 k l0 a1 a2 false))) else (some false)) = some r := H
 have A4 := Aside0.mk A40
 clear A40
 by_cases c5 : t167 = true
 ·subst c5
  have H1 : (if (l0.length : Int) > 14 then (some true) else (if (l0.length : Int) > 7 then (almshouselaw41_QuotaFullest.j0 k l0 a1 a2 (decide ((l0.length : Int) ≤ 12))) else (almshouselaw41_QuotaFullest.j0 k l0 a1 a2 false))) = some r := by rw [if_pos rfl] at H; exact H
  clear H
  have H := H1
  clear H1
  by_cases c6 : (l0.length : Int) > 14
  ·rw [if_pos c6] at H
   have c6b0 : decide (14 < (l0.length : Int)) = true := decide_eq_true c6
   have c6b1 : decide (14 < l0.length) = true := decide_eq_true (by omega)
   clear c6
   obtain rfl := Option.some.inj H
   go_enter Try.func3, Try.ntmps3
   go_wp2_with (first | ((with_reducible refine gate_callee (f := 5) rfl ?_); refine goesL_ (some 7) rfl rfl Try.func5 (by kernel_rfl) rfl #[] rfl (by (try simp only [List.map_toArray, List.map_cons, List.map_nil]); first | done | rfl | (simp only [List.length_drop, List.length_take]; rfl)) ?_; (with_reducible refine (almshouselaw41_fixed.calls k  true _ A4.out).mono ?_); rintro e w7 ⟨rfl, hb⟩; refine ⟨_, rfl, ?_⟩; have n0_ := Aside0.mk (below_step (by repeat (first | (with_reducible first | exact HB.out | apply below_alloc | apply pw_below_drewN | apply below_drew1) | exact HB.out)) hb); clear HB; have HB := n0_; clear n0_; (try clear hb); (try clear hb2); (try clear hk); (try clear hi)))
   go_ret
   exact ⟨by first | rfl | (simp [errW_none, errW_some] <;> rfl) | (simp [*, errW_none, errW_some] <;> rfl), by repeat (first | (with_reducible first | exact HB.out | apply below_alloc | apply pw_below_drewN | apply below_drew1) | exact HB.out)⟩
  ·rw [if_neg c6] at H
   have c6b0 : decide (14 < (l0.length : Int)) = false := decide_eq_false c6
   have c6b1 : decide (14 < l0.length) = false := decide_eq_false (by omega)
   clear c6
   have HC8 := Aside0.mk H
   clear H
   go_enter Try.func3, Try.ntmps3
   go_upto_region 5 with (first | ((with_reducible refine gate_callee (f := 5) rfl ?_); refine goesL_ (some 7) rfl rfl Try.func5 (by kernel_rfl) rfl #[] rfl (by (try simp only [List.map_toArray, List.map_cons, List.map_nil]); first | done | rfl | (simp only [List.length_drop, List.length_take]; rfl)) ?_; (with_reducible refine (almshouselaw41_fixed.calls k  true _ A4.out).mono ?_); rintro e w9 ⟨rfl, hb⟩; refine ⟨_, rfl, ?_⟩; have n0_ := Aside0.mk (below_step (by repeat (first | (with_reducible first | exact HB.out | apply below_alloc | apply pw_below_drewN | apply below_drew1) | exact HB.out)) hb); clear HB; have HB := n0_; clear n0_; (try clear hb); (try clear hb2); (try clear hk); (try clear hi)))
   (try simp only [Act.put, List.setIfInBounds_toArray, List.set_cons_zero, List.set_cons_succ])
   go_cut [19] (fun v19 wc => ∃ (kq : Nat) (x19_7 : Bool), v19 = .bool x19_7 ∧ Aside0 (almshouselaw41_QuotaFullest.j0 kq l0 a1 a2 x19_7 = some r) ∧ Aside0 (kq ≤ k) ∧ Aside0 (Below w.heap.size w wc))
   case first =>
    have H := HC8.out
    clear HC8
    by_cases c10 : (l0.length : Int) > 7
    ·rw [if_pos c10] at H
     have c10b0 : decide (7 < (l0.length : Int)) = true := decide_eq_true c10
     have c10b1 : decide (7 < l0.length) = true := decide_eq_true (by omega)
     clear c10
     (first | rw [c10b0] | (simp only [i64_w, i32_w]; rw [c10b0]) | skip)
     have H' := Aside0.mk H
     clear H
     go_wp2
     go_meet
     case rel => exact ⟨_, (decide ((l0.length : Int) ≤ 12)), (by first | rfl | (simp; done) | (simp [*]; done)), H', ⟨by first | omega | exact Nat.le_refl _⟩, ⟨by repeat (first | (with_reducible first | exact HB.out | apply below_alloc | apply pw_below_drewN | apply below_drew1) | exact HB.out)⟩⟩
    ·rw [if_neg c10] at H
     have c10b0 : decide (7 < (l0.length : Int)) = false := decide_eq_false c10
     have c10b1 : decide (7 < l0.length) = false := decide_eq_false (by omega)
     clear c10
     (first | rw [c10b0] | (simp only [i64_w, i32_w]; rw [c10b0]) | skip)
     have H' := Aside0.mk H
     clear H
     go_wp2
     go_meet
     case rel => exact ⟨_, (false), (by first | rfl | (simp; done) | (simp [*]; done)), H', ⟨by first | omega | exact Nat.le_refl _⟩, ⟨by repeat (first | (with_reducible first | exact HB.out | apply below_alloc | apply pw_below_drewN | apply below_drew1) | exact HB.out)⟩⟩
   case rest =>
    clear HC8
    try clear c1
    try clear p2
    try clear c3
    try clear c5
    try clear c6
    try clear c6b0
    try clear c6b1
    try clear c10
    try clear c10b0
    try clear c10b1
    obtain ⟨kq, x19_7, rfl, HA, HJ7, HB⟩ := hcut
    cases kq with
    | zero => exact absurd HA.out (by simp [almshouselaw41_QuotaFullest.j0])
    | succ kj7 =>
     have H := HA.out
     clear HA
     simp only [almshouselaw41_QuotaFullest.j0] at H
     have HC11 := Aside0.mk H
     clear H
     go_upto_if 19 with (fail)
     go_cut [0] (fun v0 wc => ∃ (kq : Nat) (L : List S34), v0 = .slice A0 L.length c0 ∧ Aside0 (Kd.C k34 w A0 L.length L) ∧ Aside0 (L.length ≤ c0) ∧ Aside0 (almshouselaw41_QuotaFullest.j1 kq L a1 a2 = some r) ∧ Aside0 (kq ≤ kj7) ∧ Aside0 (Below w.heap.size w wc))
     case first =>
      have H := HC11.out
      clear HC11
      by_cases c12 : x19_7 = true
      ·subst c12
       have H1 : (if 7 ≤ (l0.length : Int) then (almshouselaw41_QuotaFullest.j1 kj7 (l0.take 7) a1 a2) else (none)) = some r := by rw [if_pos rfl] at H; exact H
       clear H
       have H := H1
       clear H1
       by_cases c13 : 7 ≤ (l0.length : Int)
       ·rw [if_pos c13] at H
        have c13b0 := eq_true c13
        have c13b1 : decide (7 ≤ (l0.length : Int)) = true := decide_eq_true c13
        clear c13
        obtain ⟨y168, hy168⟩ : ∃ y_ : List (S34), y_ = (l0.take 7) := ⟨_, rfl⟩
        replace H : (almshouselaw41_QuotaFullest.j1 kj7 y168 a1 a2) = some r := by first | (rw [hy168]; with_reducible exact H) | (have H2_ := (Option.bind_some _ _).symm.trans H; rw [hy168]; with_reducible exact H2_) | (have H2_ := (Option.bind_some _ _).symm.trans H; with_reducible exact H2_) | with_reducible exact H | (rw [hy168]; exact H) | exact H
        have Ny168 := Aside0.mk hy168
        clear hy168
        have H' := Aside0.mk H
        clear H
        have q14 : (7 : Int) ≤ ((l0.length : Int) : Int) := of_decide_eq_true (by first | (with_reducible assumption) | assumption)
        obtain ⟨i014, hi014, _, hsz14, _⟩ := info_parts info34
        have hroom14 : l0.length ≤ c0 := HC0.out
        have hC14 : Kd.C k34 _ A0 l0.length l0 := HR0.out
        have hcut14 := cut_to (P := Try.prog) 22 34 .i64 Try.underlying22 hi014 A0 l0.length c0 7 (by omega) q14 hroom14
        have hr14 := Kd.C_take (m := 7) hC14 (by omega)
        have hy14 : y168.length = (7 : Int).toNat := (by rw [Ny168.out, List.length_take]; omega)
        rw [← Ny168.out] at hr14
        rw [← hy14] at hcut14
        have HR171 := Aside0.mk hr14
        have HC171 := Aside0.mk (show y168.length ≤ c0 from by omega)
        clear hr14 hC14 hroom14 hi014 hsz14
        have KY14 := Aside0.mk hy14
        clear hy14
        replace q14 := eq_true q14
        go_wp2
        go_meet
        case rel => exact ⟨_, y168, rfl, HR171, HC171, H', ⟨by have := HJ7.out; first | omega | exact Nat.le_refl _⟩, ⟨by repeat (first | (with_reducible first | exact HB.out | apply below_alloc | apply pw_below_drewN | apply below_drew1) | exact HB.out)⟩⟩
       ·rw [if_neg c13] at H
        exact absurd H (by simp)
      ·replace c12 := Bool.eq_false_iff.mpr c12
       subst c12
       have H1 : (almshouselaw41_QuotaFullest.j1 kj7 l0 a1 a2) = some r := by rw [if_neg (show ¬ (false = true) by decide)] at H; exact H
       clear H
       have H := H1
       clear H1
       have H' := Aside0.mk H
       clear H
       go_wp2
       go_meet
       case rel => exact ⟨_, l0, rfl, HR0, HC0, H', ⟨by have := HJ7.out; first | omega | exact Nat.le_refl _⟩, ⟨by repeat (first | (with_reducible first | exact HB.out | apply below_alloc | apply pw_below_drewN | apply below_drew1) | exact HB.out)⟩⟩
     case rest =>
      clear HC11
      try clear c1
      try clear q1
      try clear p2
      try clear c3
      try clear c5
      try clear c6
      try clear c6b0
      try clear c6b1
      try clear c10
      try clear c10b0
      try clear c10b1
      try clear c12
      try clear c13
      try clear c13b0
      try clear c13b1
      try clear q14
      try clear p2
      try clear q14
      obtain ⟨kq, L, rfl, HR1, HC1, HA, HJ10, HB⟩ := hcut
      cases kq with
      | zero => exact absurd HA.out (by simp [almshouselaw41_QuotaFullest.j1])
      | succ kj10 =>
       have H := HA.out
       clear HA
       simp only [almshouselaw41_QuotaFullest.j1] at H
       replace H := Option.bind_eq_some_iff.mp H
       obtain ⟨t172, A150, H⟩ := H
       replace H : ((almshouselaw41_wishes.f kj10 L).bind fun t175 => ((almshouseref41_Fullest.f kj10 t175 a1 a2).bind fun t178 => ((almshouselaw41_same.f kj10 t172 t178).bind fun t181 => (some t181)))) = some r := H
       have A15 := Aside0.mk A150
       clear A150
       replace H := Option.bind_eq_some_iff.mp H
       obtain ⟨t175, A160, H⟩ := H
       replace H : ((almshouseref41_Fullest.f kj10 t175 a1 a2).bind fun t178 => ((almshouselaw41_same.f kj10 t172 t178).bind fun t181 => (some t181))) = some r := H
       have A16 := Aside0.mk A160
       clear A160
       replace H := Option.bind_eq_some_iff.mp H
       obtain ⟨t178, A170, H⟩ := H
       replace H : ((almshouselaw41_same.f kj10 t172 t178).bind fun t181 => (some t181)) = some r := H
       have A17 := Aside0.mk A170
       clear A170
       replace H := Option.bind_eq_some_iff.mp H
       obtain ⟨t181, A180, H⟩ := H
       replace H : (some t181) = some r := H
       have A18 := Aside0.mk A180
       clear A180
       obtain rfl := Option.some.inj H
       go_wp2_with (first | ((with_reducible refine gate_callee (f := 7) rfl ?_); refine goesL_ (some 25) rfl rfl Try.func7 (by kernel_rfl) rfl #[.slice A0 L.length c0, .int .i64 a1, .int .i64 a2] rfl (by (try simp only [List.map_toArray, List.map_cons, List.map_nil]); first | done | rfl | (simp only [List.length_drop, List.length_take]; rfl)) ?_; (with_reducible refine (quota_Fullest.calls kj10 _ _ L a1 a2 t172 _ ?side1 ?side2 A15.out).mono ?_); (case side1 => repeat (first | exact (Kd.C_below HR1.out HB.out) | (with_reducible refine Kd.C_alloc ?_ _) | (with_reducible refine Kd.C_drewN ?_ _) | (with_reducible refine Kd.C_drew ?_))); (case side2 => exact HC1.out); rintro e w19 ⟨v173, rfl, ho0, hb⟩; refine ⟨_, rfl, ?_⟩; have n0_ := Aside0.mk (Kd.R_lower ho0 (below_size (by repeat (first | (with_reducible first | exact HB.out | apply below_alloc | apply pw_below_drewN | apply below_drew1) | exact HB.out)))); have n1_ := Aside0.mk (below_step (by repeat (first | (with_reducible first | exact HB.out | apply below_alloc | apply pw_below_drewN | apply below_drew1) | exact HB.out)) hb); clear HB; have HO174 := n0_; have HB := n1_; clear n0_ n1_; (try clear hb); (try clear hb2); (try clear hk); (try clear hi); (try clear ho0)) | ((with_reducible refine gate_callee (f := 9) rfl ?_); refine goesL_ (some 27) rfl rfl Try.func9 (by kernel_rfl) rfl #[.slice A0 L.length c0] rfl (by (try simp only [List.map_toArray, List.map_cons, List.map_nil]); first | done | rfl | (simp only [List.length_drop, List.length_take]; rfl)) ?_; (with_reducible refine (almshouselaw41_wishes.calls kj10 _ _ L t175 _ ?side1 ?side2 A16.out).mono ?_); (case side1 => repeat (first | exact (Kd.C_below HR1.out HB.out) | (with_reducible refine Kd.C_alloc ?_ _) | (with_reducible refine Kd.C_drewN ?_ _) | (with_reducible refine Kd.C_drew ?_))); (case side2 => exact HC1.out); rintro e w20 ⟨v176, rfl, ho0, hb⟩; refine ⟨_, rfl, ?_⟩; have n0_ := Aside0.mk (Kd.R_below (by (with_reducible repeat (first | apply Kd.R_alloc | apply Kd.R_drewN | apply Kd.R_drew)); exact HO174.out) hb); have n1_ := Aside0.mk (Kd.R_lower ho0 (below_size (by repeat (first | (with_reducible first | exact HB.out | apply below_alloc | apply pw_below_drewN | apply below_drew1) | exact HB.out)))); have n2_ := Aside0.mk (below_step (by repeat (first | (with_reducible first | exact HB.out | apply below_alloc | apply pw_below_drewN | apply below_drew1) | exact HB.out)) hb); clear HO174; clear HB; have HO174 := n0_; have HO177 := n1_; have HB := n2_; clear n0_ n1_ n2_; (try clear hb); (try clear hb2); (try clear hk); (try clear hi); (try clear ho0); obtain ⟨Ao21, co21, eo21⟩ := Kd.R_slice HO177.out; subst eo21) | ((with_reducible refine gate_callee (f := 8) rfl ?_); refine goesL_ (some 30) rfl rfl Try.func8 (by kernel_rfl) rfl #[.slice Ao21 t175.length co21, .int .i64 a1, .int .i64 a2] rfl (by (try simp only [List.map_toArray, List.map_cons, List.map_nil]); first | done | rfl | (simp only [List.length_drop, List.length_take]; rfl)) ?_; (with_reducible refine (almshouseref41_Fullest.calls kj10 _ _ t175 a1 a2 t178 _ ?side1 ?side2 A17.out).mono ?_); (case side1 => repeat (first | exact (Kd.R_reads' HO177.out).2.2 | (with_reducible refine Kd.C_alloc ?_ _) | (with_reducible refine Kd.C_drewN ?_ _) | (with_reducible refine Kd.C_drew ?_))); (case side2 => exact (Kd.R_reads' HO177.out).2.1); rintro e w22 ⟨v179, rfl, ho0, hb⟩; refine ⟨_, rfl, ?_⟩; have n0_ := Aside0.mk (Kd.R_elder' (by (with_reducible repeat (first | apply Kd.R_alloc | apply Kd.R_drewN | apply Kd.R_drew)); exact HO174.out) (Kd.R_base ho0) hb); have n1_ := Aside0.mk (Kd.R_below (by (with_reducible repeat (first | apply Kd.R_alloc | apply Kd.R_drewN | apply Kd.R_drew)); exact HO177.out) hb); have n2_ := Aside0.mk (Kd.R_lower (Kd.R_new' ho0 (Kd.R_lt (by (with_reducible repeat (first | apply Kd.R_alloc | apply Kd.R_drewN | apply Kd.R_drew)); exact HO174.out))) (below_size (by repeat (first | (with_reducible first | exact HB.out | apply below_alloc | apply pw_below_drewN | apply below_drew1) | exact HB.out)))); have n3_ := Aside0.mk (below_step (by repeat (first | (with_reducible first | exact HB.out | apply below_alloc | apply pw_below_drewN | apply below_drew1) | exact HB.out)) hb); clear HO174; clear HO177; clear HB; have HO174 := n0_; have HO177 := n1_; have HO180 := n2_; have HB := n3_; clear n0_ n1_ n2_ n3_; (try clear hb); (try clear hb2); (try clear hk); (try clear hi); (try clear ho0); obtain ⟨Ao23, co23, eo23⟩ := Kd.R_slice HO174.out; subst eo23; obtain ⟨Ao24, co24, eo24⟩ := Kd.R_slice HO180.out; subst eo24) | ((with_reducible refine gate_callee (f := 6) rfl ?_); refine goesL_ (some 31) rfl rfl Try.func6 (by kernel_rfl) rfl #[.slice Ao23 t172.length co23, .slice Ao24 t178.length co24] rfl (by (try simp only [List.map_toArray, List.map_cons, List.map_nil]); first | done | rfl | (simp only [List.length_drop, List.length_take]; rfl)) ?_; (with_reducible refine (almshouselaw41_same.calls kj10 _ _ t172 _ _ t178 t181 _ ?side1 ?side2 ?side3 ?side4 A18.out).mono ?_); (case side1 => repeat (first | exact (Kd.R_reads' HO174.out).2.2 | (with_reducible refine Kd.C_alloc ?_ _) | (with_reducible refine Kd.C_drewN ?_ _) | (with_reducible refine Kd.C_drew ?_))); (case side2 => exact (Kd.R_reads' HO174.out).2.1); (case side3 => repeat (first | exact (Kd.R_reads' HO180.out).2.2 | (with_reducible refine Kd.C_alloc ?_ _) | (with_reducible refine Kd.C_drewN ?_ _) | (with_reducible refine Kd.C_drew ?_))); (case side4 => exact (Kd.R_reads' HO180.out).2.1); rintro e w' ⟨rfl, ⟨nd, rfl⟩⟩; refine ⟨_, rfl, ?_⟩))
       go_ret
       exact ⟨by first | rfl | (simp [errW_none, errW_some] <;> rfl) | (simp [*, errW_none, errW_some] <;> rfl), by repeat (first | (with_reducible first | exact HB.out | apply below_alloc | apply pw_below_drewN | apply below_drew1) | exact HB.out)⟩
 ·replace c5 := Bool.eq_false_iff.mpr c5
  subst c5
  have H1 : (some false) = some r := by rw [if_neg (show ¬ (false = true) by decide)] at H; exact H
  clear H
  have H := H1
  clear H1
  obtain rfl := Option.some.inj H
  go_enter Try.func3, Try.ntmps3
  go_wp2_with (first | ((with_reducible refine gate_callee (f := 5) rfl ?_); refine goesL_ (some 7) rfl rfl Try.func5 (by kernel_rfl) rfl #[] rfl (by (try simp only [List.map_toArray, List.map_cons, List.map_nil]); first | done | rfl | (simp only [List.length_drop, List.length_take]; rfl)) ?_; (with_reducible refine (almshouselaw41_fixed.calls k  false _ A4.out).mono ?_); rintro e w25 ⟨rfl, hb⟩; refine ⟨_, rfl, ?_⟩; have n0_ := Aside0.mk (below_step (by repeat (first | (with_reducible first | exact HB.out | apply below_alloc | apply pw_below_drewN | apply below_drew1) | exact HB.out)) hb); clear HB; have HB := n0_; clear n0_; (try clear hb); (try clear hb2); (try clear hk); (try clear hi)))
  go_ret
  exact ⟨by first | rfl | (simp [errW_none, errW_some] <;> rfl) | (simp [*, errW_none, errW_some] <;> rfl), by repeat (first | (with_reducible first | exact HB.out | apply below_alloc | apply pw_below_drewN | apply below_drew1) | exact HB.out)⟩
end Go.Proofs.Ytpcpllabegfdjaa.X
