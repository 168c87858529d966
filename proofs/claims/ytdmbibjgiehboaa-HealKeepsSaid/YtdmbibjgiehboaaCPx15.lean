-- Cut by a program of this session (wip/pr/pack.py) to what one claim needs.
import Derived.Test.YtdmbibjgiehboaaCPx15a
namespace Go.Proofs.Ytdmbibjgiehboaa.P
open Go.RowKit Go.Proofs.YtdmbibjgiehboaaW.PrintWords Go.Proofs.YtdmbibjgiehboaaW.PrintLast Go.Proofs.YtdmbibjgiehboaaW.PrintMore
attribute [local go_sem] max2_int min2_int max_two min_two max_three min_three max_four min_four
set_option linter.unusedVariables false
set_option linter.unusedSimpArgs false
open Go.Proofs.Ytdmbibjgiehboaa.X
set_option maxHeartbeats 8000000 in
set_option maxRecDepth 100000 in
theorem almshouselaw17_HealKeeps.calls (k : Nat) (A0 : Option Addr) (c0 : Nat) (l0 : List (S36)) (a1 : Int) (a2 : Int) (a3 : Int) (a4 : Int) (r : Bool) (w : World) (hr0 : Kd.C k36 w A0 l0.length l0) (hc0 : l0.length ≤ c0) (h : almshouselaw17_HealKeeps.f k l0 a1 a2 a3 a4 = some r) :
  Calls Try.prog 4 #[.slice A0 l0.length c0,.int .i64 a1,.int .i64 a2,.int .i64 a3,.int .i64 a4] w fun e w' => e = .returned (.bool r) ∧ Below w.heap.size w w':=by
 have hu28 := Try.underlying28
 have hu36 := Try.underlying36
 have hu40 := Try.underlying40
 have HR0 := Aside0.mk hr0
 have HC0 := Aside0.mk hc0
 clear hr0 hc0
 have HB := Aside0.mk (Below.refl w.heap.size w)
 have H : ((almshouselaw17_fixed.f).bind fun t272 => (if t272 = true then ((almshouselaw17_may.f k l0 a1).bind fun t273 => (if t273 = true then ((heal_Heal.f l0 a1 a2 a3 a4).bind fun bt274 => (almshouselaw17_HealKeeps.l0 k l0 a1 a2 a3 a4 l0 (l0.length : Int) 0 bt274.1 bt274.2.1 bt274.2.2)) else (some true))) else (some false))) = some r:=h
 clear h
 replace H := Option.bind_eq_some_iff.mp H
 obtain ⟨t272, A60, H⟩ := H
 replace H : (if t272 = true then ((almshouselaw17_may.f k l0 a1).bind fun t273 => (if t273 = true then ((heal_Heal.f l0 a1 a2 a3 a4).bind fun bt274 => (almshouselaw17_HealKeeps.l0 k l0 a1 a2 a3 a4 l0 (l0.length : Int) 0 bt274.1 bt274.2.1 bt274.2.2)) else (some true))) else (some false)) = some r:=H
 have A6 := Aside0.mk A60
 clear A60
 by_cases c7 : t272 = true
 ·subst c7
  have H1 : ((almshouselaw17_may.f k l0 a1).bind fun t273 => (if t273 = true then ((heal_Heal.f l0 a1 a2 a3 a4).bind fun bt274 => (almshouselaw17_HealKeeps.l0 k l0 a1 a2 a3 a4 l0 (l0.length : Int) 0 bt274.1 bt274.2.1 bt274.2.2)) else (some true))) = some r:=by rw [if_pos rfl] at H;exact H
  clear H
  have H := H1
  clear H1
  replace H := Option.bind_eq_some_iff.mp H
  obtain ⟨t273, A80, H⟩ := H
  replace H : (if t273 = true then ((heal_Heal.f l0 a1 a2 a3 a4).bind fun bt274 => (almshouselaw17_HealKeeps.l0 k l0 a1 a2 a3 a4 l0 (l0.length : Int) 0 bt274.1 bt274.2.1 bt274.2.2)) else (some true)) = some r:=H
  have A8 := Aside0.mk A80
  clear A80
  by_cases c9 : t273 = true
  ·subst c9
   have H1 : ((heal_Heal.f l0 a1 a2 a3 a4).bind fun bt274 => (almshouselaw17_HealKeeps.l0 k l0 a1 a2 a3 a4 l0 (l0.length : Int) 0 bt274.1 bt274.2.1 bt274.2.2)) = some r:=by rw [if_pos rfl] at H;exact H
   clear H
   have H := H1
   clear H1
   replace H := Option.bind_eq_some_iff.mp H
   obtain ⟨⟨t274, t277, t280⟩, A100, H⟩ := H
   replace H : (almshouselaw17_HealKeeps.l0 k l0 a1 a2 a3 a4 l0 (l0.length : Int) 0 t274 t277 t280) = some r:=H
   have A10 := Aside0.mk A100
   clear A100
   have H' := Aside0.mk H
   clear H
   go_enter Try.func4, Try.ntmps4
   go_wp2_with (first|((with_reducible refine gate_callee (f:=6) rfl ?_);refine goesL_ (some 21) rfl rfl Try.func6 (by kernel_rfl) rfl #[] rfl (by (try simp only [List.map_toArray,List.map_cons,List.map_nil]);first|done|rfl|(simp only [List.length_drop,List.length_take];rfl)) ?_;(with_reducible refine (almshouselaw17_fixed.calls  true _ A6.out).mono ?_);rintro e w11 ⟨rfl,hb⟩;refine ⟨_,rfl,?_⟩;have n0_:=Aside0.mk (below_step (by repeat (first|(with_reducible first|exact HB.out|apply below_alloc|apply pw_below_drewN|apply below_drew1)|exact HB.out)) hb);clear HB;have HB:=n0_;clear n0_;(try clear hb);(try clear hb2);(try clear hk);(try clear hi))|((with_reducible refine gate_callee (f:=7) rfl ?_);refine goesL_ (some 25) rfl rfl Try.func7 (by kernel_rfl) rfl #[.slice A0 l0.length c0,.int .i64 a1] rfl (by (try simp only [List.map_toArray,List.map_cons,List.map_nil]);first|done|rfl|(simp only [List.length_drop,List.length_take];rfl)) ?_;(with_reducible refine (almshouselaw17_may.calls k _ _ l0 a1 true _ ?side1 ?side2 A8.out).mono ?_);(case side1 => repeat (first|exact (Kd.C_below HR0.out HB.out)|(with_reducible refine Kd.C_alloc ?_ _)|(with_reducible refine Kd.C_drewN ?_ _)|(with_reducible refine Kd.C_drew ?_)));(case side2 => exact HC0.out);rintro e w12 ⟨rfl,hb⟩;refine ⟨_,rfl,?_⟩;have n0_:=Aside0.mk (below_step (by repeat (first|(with_reducible first|exact HB.out|apply below_alloc|apply pw_below_drewN|apply below_drew1)|exact HB.out)) hb);clear HB;have HB:=n0_;clear n0_;(try clear hb);(try clear hb2);(try clear hk);(try clear hi))|((with_reducible refine gate_callee (f:=8) rfl ?_);refine goesL_ (some 32) rfl rfl Try.func8 (by kernel_rfl) rfl #[.slice A0 l0.length c0,.int .i64 a1,.int .i64 a2,.int .i64 a3,.int .i64 a4] rfl (by (try simp only [List.map_toArray,List.map_cons,List.map_nil]);first|done|rfl|(simp only [List.length_drop,List.length_take];rfl)) ?_;(with_reducible refine (heal_Heal.calls _ _ l0 a1 a2 a3 a4 t274 t277 t280 _ ?side1 ?side2 A10.out).mono ?_);(case side1 => repeat (first|exact (Kd.C_below HR0.out HB.out)|(with_reducible refine Kd.C_alloc ?_ _)|(with_reducible refine Kd.C_drewN ?_ _)|(with_reducible refine Kd.C_drew ?_)));(case side2 => exact HC0.out);rintro e w13 ⟨v275,v278,rfl,ho0,ho1,hb⟩;refine ⟨_,rfl,?_⟩;have n0_:=Aside0.mk (Kd.R_lower ho0 (below_size (by repeat (first|(with_reducible first|exact HB.out|apply below_alloc|apply pw_below_drewN|apply below_drew1)|exact HB.out))));have n1_:=Aside0.mk (Kd.R_lower ho1 (below_size (by repeat (first|(with_reducible first|exact HB.out|apply below_alloc|apply pw_below_drewN|apply below_drew1)|exact HB.out))));have n2_:=Aside0.mk (below_step (by repeat (first|(with_reducible first|exact HB.out|apply below_alloc|apply pw_below_drewN|apply below_drew1)|exact HB.out)) hb);clear HB;have HO276:=n0_;have HO279:=n1_;have HB:=n2_;clear n0_ n1_ n2_;(try clear hb);(try clear hb2);(try clear hk);(try clear hi);(try clear ho0);(try clear ho1))|((with_reducible refine gate_dst (N:=11) rfl ?_);refine box_event ?hg (N:=11) ?hd (cs:=#[.slice none 0 0,.slice none 0 0,.int .i64 0]) (t:=28) ?hr ?_;(case hd => rfl);(case hg => rfl);(case hr => first|(go_simp;done)|(go_simp;rfl));intro gb281 hg w14 hbox hb;have n0_:=Aside0.mk (Kd.R_below (by (with_reducible repeat (first|apply Kd.R_alloc|apply Kd.R_drewN|apply Kd.R_drew));exact HO276.out) hb);have n1_:=Aside0.mk (Kd.R_below (by (with_reducible repeat (first|apply Kd.R_alloc|apply Kd.R_drewN|apply Kd.R_drew));exact HO279.out) hb);have n2_:=Aside0.mk (below_step (by repeat (first|(with_reducible first|exact HB.out|apply below_alloc|apply pw_below_drewN|apply below_drew1)|exact HB.out)) hb);have n3_:=Aside0.mk (hbox);have n4_:=Aside0.mk ((by rw [hg];exact (below_size (by repeat (first|(with_reducible first|exact HB.out|apply below_alloc|apply pw_below_drewN|apply below_drew1)|exact HB.out))) : w.heap.size ≤ gb281));have n5_:=Aside0.mk ((by rw [hg];exact (below_size (by repeat (first|(with_reducible first|exact HB.out|apply below_alloc|apply pw_below_drewN|apply below_drew1)|exact HB.out))) : w.heap.size ≤ gb281));clear HO276;clear HO279;clear HB;have HO276:=n0_;have HO279:=n1_;have HB:=n2_;have BK281:=n3_;have GW281:=n4_;have GE281:=n5_;clear n0_ n1_ n2_ n3_ n4_ n5_;clear hb hbox hg;obtain ⟨Ao15,co15,eo15⟩:=Kd.R_slice HO276.out;subst eo15;have hcz16_0 : w14.cell? ⟨gb281,0,none⟩ = some (.slice none 0 0):=(blk_cell BK281.out 0).trans rfl;have hcz16_1 : w14.cell? ⟨gb281,1,none⟩ = some (.slice none 0 0):=(blk_cell BK281.out 1).trans rfl;have hcz16_2 : w14.cell? ⟨gb281,2,none⟩ = some (.int .i64 0):=(blk_cell BK281.out 2).trans rfl;have hfz16_0:=blk_frozen BK281.out 0;have hfz16_1:=blk_frozen BK281.out 1;have hfz16_2:=blk_frozen BK281.out 2;obtain ⟨Ao17,co17,eo17⟩:=Kd.R_slice HO279.out;subst eo17))
   go_loopg [35] k (fun kq v35 w' => ∃ (x35_1 : Int),v35 = .int .i64 x35_1 ∧ Aside0 (almshouselaw17_HealKeeps.l0 kq l0 a1 a2 a3 a4 l0 (l0.length : Int) x35_1 t274 t277 t280 = some r) ∧ Aside0 (kq ≤ k) ∧ Aside0 (Kd.R k40 40 w' w.heap.size (fun _ => True) (.slice Ao15 t274.length co15) t274) ∧ Aside0 (Kd.R (Kd.int .i64) 3 w' w.heap.size (fun _ => True) (.slice Ao17 t277.length co17) t277) ∧ Aside0 (w'.heap[gb281]? = some (.cells #[(.slice Ao15 t274.length co15),(.slice Ao17 t277.length co17),.int .i64 t280] 28 (0,0))) ∧ Aside0 (Below w.heap.size w w'))
   case atStart => exact ⟨(0),(by first|rfl|(simp;done)|(simp [*];done)),H',⟨Nat.le_refl _⟩,⟨by (with_reducible repeat (first|apply Kd.R_alloc|apply Kd.R_drewN|apply Kd.R_drew));exact Kd.R_mono (Kd.R_far (p:=⟨gb281,2,none⟩) (Kd.R_far (p:=⟨gb281,1,none⟩) (Kd.R_far (p:=⟨gb281,0,none⟩) (Kd.R_types HO276.out BK281.out (by decide)) (fun _ hk => hk.2) (.slice Ao15 t274.length co15)) (fun _ hk => hk.2) (.slice Ao17 t277.length co17)) (fun _ hk => hk.2) (.int .i64 t280)) (fun _ hk => trivial)⟩,⟨by (with_reducible repeat (first|apply Kd.R_alloc|apply Kd.R_drewN|apply Kd.R_drew));exact Kd.R_mono (Kd.R_far (p:=⟨gb281,2,none⟩) (Kd.R_far (p:=⟨gb281,1,none⟩) (Kd.R_far (p:=⟨gb281,0,none⟩) (Kd.R_types HO279.out BK281.out (by decide)) (fun _ hk => hk.2) (.slice Ao15 t274.length co15)) (fun _ hk => hk.2) (.slice Ao17 t277.length co17)) (fun _ hk => hk.2) (.int .i64 t280)) (fun _ hk => trivial)⟩,⟨by (with_reducible repeat (first|refine blk_drewN ?_ _|refine blk_drew ?_|refine blk_alloc ?_ _));refine blk_put (cs:=#[.slice Ao15 t274.length co15,.slice Ao17 t277.length co17,.int .i64 0]) ?_ 2 _ rfl;(with_reducible repeat (first|refine blk_drewN ?_ _|refine blk_drew ?_|refine blk_alloc ?_ _));refine blk_put (cs:=#[.slice Ao15 t274.length co15,.slice none 0 0,.int .i64 0]) ?_ 1 _ rfl;(with_reducible repeat (first|refine blk_drewN ?_ _|refine blk_drew ?_|refine blk_alloc ?_ _));refine blk_put (cs:=#[.slice none 0 0,.slice none 0 0,.int .i64 0]) ?_ 0 _ rfl;(with_reducible repeat (first|refine blk_drewN ?_ _|refine blk_drew ?_|refine blk_alloc ?_ _));exact BK281.out⟩,⟨by repeat (first|(with_reducible first|exact HB.out|apply below_alloc|apply pw_below_drewN|apply below_drew1|refine below_set ?_ GE281.out)|exact HB.out)⟩⟩
   case round =>
    clear H'
    try clear p2
    try clear c4
    try clear c6
    try clear c7
    try clear c8
    try clear c9
    try clear hcz16_0
    try clear hcz16_1
    try clear hcz16_2
    try clear hfz16_0
    try clear hfz16_1
    try clear hfz16_2
    obtain ⟨x35_1, rfl, HA, HK1, HO_282000, HO_282001, BK281, HB⟩ := hrel
    cases gk with
    | zero => exact absurd HA.out (by simp [almshouselaw17_HealKeeps.l0])
    | succ k1 =>
     have H := HA.out
     clear HA
     simp only [almshouselaw17_HealKeeps.l0] at H
     by_cases c18 : x35_1 < (l0.length : Int)
     ·rw [if_pos c18] at H
      have c18b0 : decide (x35_1 < (l0.length : Int)) = true := decide_eq_true c18
      clear c18
      by_cases c19 : 0 ≤ x35_1
      ·rw [if_pos c19] at H
       have c19b0 : decide (0 ≤ x35_1) = true := decide_eq_true c19
       clear c19
       by_cases c20 : x35_1 < (l0.length : Int)
       ·rw [if_pos c20] at H
        have c20b0 : decide (x35_1 < (l0.length : Int)) = true := decide_eq_true c20
        clear c20
        have HC21 := Aside0.mk H
        clear H
        have p282 : 0 ≤ (x35_1 : Int):=of_decide_eq_true (by first|(with_reducible assumption)|assumption)
        have q282 : x35_1 < (l0.length : Int):=of_decide_eq_true (by first|(with_reducible assumption)|assumption)
        obtain ⟨ad282,e282,hx282_0,hx282_1,hx282_2,hx282_3,hx282_4,hx282_5,hx282_6,hx282_7,hx282_8,hx282_9⟩:=at_T36 HR0.out x35_1 p282 q282
        cases e282
        replace hx282_0 := (HB.out.cell (World.block_lt_of_cell? w _ hx282_0)).trans hx282_0
        replace hx282_1 := (HB.out.cell (World.block_lt_of_cell? w _ hx282_1)).trans hx282_1
        replace hx282_2 := (HB.out.cell (World.block_lt_of_cell? w _ hx282_2)).trans hx282_2
        replace hx282_3 := (HB.out.cell (World.block_lt_of_cell? w _ hx282_3)).trans hx282_3
        replace hx282_4 := (HB.out.cell (World.block_lt_of_cell? w _ hx282_4)).trans hx282_4
        replace hx282_5 := (HB.out.cell (World.block_lt_of_cell? w _ hx282_5)).trans hx282_5
        replace hx282_6 := (HB.out.cell (World.block_lt_of_cell? w _ hx282_6)).trans hx282_6
        replace hx282_7 := (HB.out.cell (World.block_lt_of_cell? w _ hx282_7)).trans hx282_7
        replace hx282_8 := (HB.out.cell (World.block_lt_of_cell? w _ hx282_8)).trans hx282_8
        replace hx282_9 := (HB.out.cell (World.block_lt_of_cell? w _ hx282_9)).trans hx282_9
        replace p282 := eq_true p282
        replace q282 := eq_true q282
        go_upto_region 9 with (first|((with_reducible refine gate_dst (N:=13) rfl ?_);refine box_event ?hg (N:=13) ?hd (cs:=#[.int .i64 0,.int .i64 0,.bool false,.int .i64 0,.int .i64 0,.int .i64 0,.int .i64 0,.int .i64 0,.bool false,.string (⟨#[]⟩ : ByteArray)]) (t:=36) ?hr ?_;(case hd => rfl);(case hg => rfl);(case hr => first|(go_simp;done)|(go_simp;rfl));intro gb283 hg w22 hbox hb;have n0_:=Aside0.mk (Kd.R_below (by (with_reducible repeat (first|apply Kd.R_alloc|apply Kd.R_drewN|apply Kd.R_drew));exact HO_282000.out) hb);have n1_:=Aside0.mk (Kd.R_below (by (with_reducible repeat (first|apply Kd.R_alloc|apply Kd.R_drewN|apply Kd.R_drew));exact HO_282001.out) hb);have n2_:=Aside0.mk (blk_below (g:=gb281) (o:=.cells #[.slice Ao15 t274.length co15,.slice Ao17 t277.length co17,.int .i64 t280] 28 (0,0)) (by (with_reducible repeat (first|refine blk_drewN ?_ _|refine blk_drew ?_|refine blk_alloc ?_ _));exact BK281.out) hb);have n3_:=Aside0.mk (below_step (by repeat (first|(with_reducible first|exact HB.out|apply below_alloc|apply pw_below_drewN|apply below_drew1|refine below_set ?_ GE281.out)|exact HB.out)) hb);have n4_:=Aside0.mk (hbox);have n5_:=Aside0.mk ((by rw [hg];exact (below_size (by repeat (first|(with_reducible first|exact HB.out|apply below_alloc|apply pw_below_drewN|apply below_drew1|refine below_set ?_ GE281.out)|exact HB.out))) : w.heap.size ≤ gb283));have n6_:=Aside0.mk ((by rw [hg];exact (below_size (by repeat (first|(with_reducible first|exact HB.out|apply below_alloc|apply pw_below_drewN|apply below_drew1|refine below_set ?_ GE281.out)|exact HB.out))) : w.heap.size ≤ gb283));have n7_:=Aside0.mk ((by rw [hg];exact Nat.ne_of_lt (blk_lt (g:=gb281) (o:=.cells #[.slice Ao15 t274.length co15,.slice Ao17 t277.length co17,.int .i64 t280] 28 (0,0)) (by (with_reducible repeat (first|refine blk_drewN ?_ _|refine blk_drew ?_|refine blk_alloc ?_ _));exact BK281.out)) : gb281 ≠ gb283));have n8_:=Aside0.mk ((by rw [hg];exact Nat.ne_of_gt (blk_lt (g:=gb281) (o:=.cells #[.slice Ao15 t274.length co15,.slice Ao17 t277.length co17,.int .i64 t280] 28 (0,0)) (by (with_reducible repeat (first|refine blk_drewN ?_ _|refine blk_drew ?_|refine blk_alloc ?_ _));exact BK281.out)) : gb283 ≠ gb281));clear HO_282000;clear HO_282001;clear BK281;clear HB;have HO_282000:=n0_;have HO_282001:=n1_;have BK281:=n2_;have HB:=n3_;have BK283:=n4_;have GW283:=n5_;have GE283:=n6_;have NB281_283:=n7_;have NB283_281:=n8_;clear n0_ n1_ n2_ n3_ n4_ n5_ n6_ n7_ n8_;clear hb hbox hg;have hnb23:=NB283_281.out;have hnc23:=NB281_283.out;have hcz24_0 : w22.cell? ⟨gb283,0,none⟩ = some (.int .i64 0):=(blk_cell BK283.out 0).trans rfl;have hcz24_1 : w22.cell? ⟨gb283,1,none⟩ = some (.int .i64 0):=(blk_cell BK283.out 1).trans rfl;have hcz24_2 : w22.cell? ⟨gb283,2,none⟩ = some (.bool false):=(blk_cell BK283.out 2).trans rfl;have hcz24_3 : w22.cell? ⟨gb283,3,none⟩ = some (.int .i64 0):=(blk_cell BK283.out 3).trans rfl;have hcz24_4 : w22.cell? ⟨gb283,4,none⟩ = some (.int .i64 0):=(blk_cell BK283.out 4).trans rfl;have hcz24_5 : w22.cell? ⟨gb283,5,none⟩ = some (.int .i64 0):=(blk_cell BK283.out 5).trans rfl;have hcz24_6 : w22.cell? ⟨gb283,6,none⟩ = some (.int .i64 0):=(blk_cell BK283.out 6).trans rfl;have hcz24_7 : w22.cell? ⟨gb283,7,none⟩ = some (.int .i64 0):=(blk_cell BK283.out 7).trans rfl;have hcz24_8 : w22.cell? ⟨gb283,8,none⟩ = some (.bool false):=(blk_cell BK283.out 8).trans rfl;have hcz24_9 : w22.cell? ⟨gb283,9,none⟩ = some (.string (⟨#[]⟩ : ByteArray)):=(blk_cell BK283.out 9).trans rfl;have hfz24_0:=blk_frozen BK283.out 0;have hfz24_1:=blk_frozen BK283.out 1;have hfz24_2:=blk_frozen BK283.out 2;have hfz24_3:=blk_frozen BK283.out 3;have hfz24_4:=blk_frozen BK283.out 4;have hfz24_5:=blk_frozen BK283.out 5;have hfz24_6:=blk_frozen BK283.out 6;have hfz24_7:=blk_frozen BK283.out 7;have hfz24_8:=blk_frozen BK283.out 8;have hfz24_9:=blk_frozen BK283.out 9))
        (try simp only [Act.put,List.setIfInBounds_toArray,List.set_cons_zero,List.set_cons_succ])
        go_cut [61] (fun v61 wc => ∃ (kq : Nat) (x61_20 : Bool),v61 = .bool x61_20 ∧ Aside0 (almshouselaw17_HealKeeps.j1 kq l0 a1 a2 a3 a4 l0 (l0.length : Int) x35_1 x61_20 t274 t277 t280 ((rd_T36 l0 x35_1).f0) ((rd_T36 l0 x35_1).f1) ((rd_T36 l0 x35_1).f2) ((rd_T36 l0 x35_1).f3.f0) ((rd_T36 l0 x35_1).f3.f1) ((rd_T36 l0 x35_1).f3.f2) ((rd_T36 l0 x35_1).f3.f3) ((rd_T36 l0 x35_1).f3.f4) ((rd_T36 l0 x35_1).f3.f5) ((rd_T36 l0 x35_1).f4) = some r) ∧ Aside0 (kq ≤ k1) ∧ Aside0 (Kd.R k40 40 wc w.heap.size (fun _ => True) (.slice Ao15 t274.length co15) t274) ∧ Aside0 (Kd.R (Kd.int .i64) 3 wc w.heap.size (fun _ => True) (.slice Ao17 t277.length co17) t277) ∧ Aside0 (wc.heap[gb281]? = some (.cells #[(.slice Ao15 t274.length co15),(.slice Ao17 t277.length co17),.int .i64 t280] 28 (0,0))) ∧ Aside0 (wc.heap[gb283]? = some (.cells #[.int .i64 ((rd_T36 l0 x35_1).f0),.int .i64 ((rd_T36 l0 x35_1).f1),.bool ((rd_T36 l0 x35_1).f2),.int .i64 ((rd_T36 l0 x35_1).f3.f0),.int .i64 ((rd_T36 l0 x35_1).f3.f1),.int .i64 ((rd_T36 l0 x35_1).f3.f2),.int .i64 ((rd_T36 l0 x35_1).f3.f3),.int .i64 ((rd_T36 l0 x35_1).f3.f4),.bool ((rd_T36 l0 x35_1).f3.f5),.string ((rd_T36 l0 x35_1).f4)] 36 (0,0))) ∧ Aside0 (Below w.heap.size w wc))
        case first =>
         have H := HC21.out
         clear HC21
         by_cases c25 : ((rd_T36 l0 x35_1).f0) < 0
         ·rw [if_pos c25] at H
          have c25b0 : decide (((rd_T36 l0 x35_1).f0) < 0) = true := decide_eq_true c25
          clear c25
          (first | rw [c25b0] | (simp only [i64_w, i32_w]; rw [c25b0]) | skip)
          have H' := Aside0.mk H
          clear H
          have hnb26 := NB283_281.out
          have hnc26 := NB281_283.out
          have hcz27_0 : w22.cell? ⟨gb283,0,none⟩ = some (.int .i64 0):=(blk_cell BK283.out 0).trans rfl
          have hcz27_1 : w22.cell? ⟨gb283,1,none⟩ = some (.int .i64 0):=(blk_cell BK283.out 1).trans rfl
          have hcz27_2 : w22.cell? ⟨gb283,2,none⟩ = some (.bool false):=(blk_cell BK283.out 2).trans rfl
          have hcz27_3 : w22.cell? ⟨gb283,3,none⟩ = some (.int .i64 0):=(blk_cell BK283.out 3).trans rfl
          have hcz27_4 : w22.cell? ⟨gb283,4,none⟩ = some (.int .i64 0):=(blk_cell BK283.out 4).trans rfl
          have hcz27_5 : w22.cell? ⟨gb283,5,none⟩ = some (.int .i64 0):=(blk_cell BK283.out 5).trans rfl
          have hcz27_6 : w22.cell? ⟨gb283,6,none⟩ = some (.int .i64 0):=(blk_cell BK283.out 6).trans rfl
          have hcz27_7 : w22.cell? ⟨gb283,7,none⟩ = some (.int .i64 0):=(blk_cell BK283.out 7).trans rfl
          have hcz27_8 : w22.cell? ⟨gb283,8,none⟩ = some (.bool false):=(blk_cell BK283.out 8).trans rfl
          have hcz27_9 : w22.cell? ⟨gb283,9,none⟩ = some (.string (⟨#[]⟩ : ByteArray)):=(blk_cell BK283.out 9).trans rfl
          have hfz27_0 := blk_frozen BK283.out 0
          have hfz27_1 := blk_frozen BK283.out 1
          have hfz27_2 := blk_frozen BK283.out 2
          have hfz27_3 := blk_frozen BK283.out 3
          have hfz27_4 := blk_frozen BK283.out 4
          have hfz27_5 := blk_frozen BK283.out 5
          have hfz27_6 := blk_frozen BK283.out 6
          have hfz27_7 := blk_frozen BK283.out 7
          have hfz27_8 := blk_frozen BK283.out 8
          have hfz27_9 := blk_frozen BK283.out 9
          go_wp2
          go_meet
          case rel => exact ⟨_,(true),(by first|rfl|(simp;done)|(simp [*];done)),H',⟨by have:=HK1.out;first|omega|exact Nat.le_refl _⟩,⟨by (with_reducible repeat (first|apply Kd.R_alloc|apply Kd.R_drewN|apply Kd.R_drew));exact Kd.R_mono (Kd.R_far (p:=⟨gb283,9,none⟩) (Kd.R_far (p:=⟨gb283,8,none⟩) (Kd.R_far (p:=⟨gb283,7,none⟩) (Kd.R_far (p:=⟨gb283,6,none⟩) (Kd.R_far (p:=⟨gb283,5,none⟩) (Kd.R_far (p:=⟨gb283,4,none⟩) (Kd.R_far (p:=⟨gb283,3,none⟩) (Kd.R_far (p:=⟨gb283,2,none⟩) (Kd.R_far (p:=⟨gb283,1,none⟩) (Kd.R_far (p:=⟨gb283,0,none⟩) (Kd.R_types HO_282000.out BK283.out (by decide)) (fun _ hk => hk.2) (.int .i64 ((rd_T36 l0 x35_1).f0))) (fun _ hk => hk.2) (.int .i64 ((rd_T36 l0 x35_1).f1))) (fun _ hk => hk.2) (.bool ((rd_T36 l0 x35_1).f2))) (fun _ hk => hk.2) (.int .i64 ((rd_T36 l0 x35_1).f3.f0))) (fun _ hk => hk.2) (.int .i64 ((rd_T36 l0 x35_1).f3.f1))) (fun _ hk => hk.2) (.int .i64 ((rd_T36 l0 x35_1).f3.f2))) (fun _ hk => hk.2) (.int .i64 ((rd_T36 l0 x35_1).f3.f3))) (fun _ hk => hk.2) (.int .i64 ((rd_T36 l0 x35_1).f3.f4))) (fun _ hk => hk.2) (.bool ((rd_T36 l0 x35_1).f3.f5))) (fun _ hk => hk.2) (.string ((rd_T36 l0 x35_1).f4))) (fun _ hk => trivial)⟩,⟨by (with_reducible repeat (first|apply Kd.R_alloc|apply Kd.R_drewN|apply Kd.R_drew));exact Kd.R_mono (Kd.R_far (p:=⟨gb283,9,none⟩) (Kd.R_far (p:=⟨gb283,8,none⟩) (Kd.R_far (p:=⟨gb283,7,none⟩) (Kd.R_far (p:=⟨gb283,6,none⟩) (Kd.R_far (p:=⟨gb283,5,none⟩) (Kd.R_far (p:=⟨gb283,4,none⟩) (Kd.R_far (p:=⟨gb283,3,none⟩) (Kd.R_far (p:=⟨gb283,2,none⟩) (Kd.R_far (p:=⟨gb283,1,none⟩) (Kd.R_far (p:=⟨gb283,0,none⟩) (Kd.R_types HO_282001.out BK283.out (by decide)) (fun _ hk => hk.2) (.int .i64 ((rd_T36 l0 x35_1).f0))) (fun _ hk => hk.2) (.int .i64 ((rd_T36 l0 x35_1).f1))) (fun _ hk => hk.2) (.bool ((rd_T36 l0 x35_1).f2))) (fun _ hk => hk.2) (.int .i64 ((rd_T36 l0 x35_1).f3.f0))) (fun _ hk => hk.2) (.int .i64 ((rd_T36 l0 x35_1).f3.f1))) (fun _ hk => hk.2) (.int .i64 ((rd_T36 l0 x35_1).f3.f2))) (fun _ hk => hk.2) (.int .i64 ((rd_T36 l0 x35_1).f3.f3))) (fun _ hk => hk.2) (.int .i64 ((rd_T36 l0 x35_1).f3.f4))) (fun _ hk => hk.2) (.bool ((rd_T36 l0 x35_1).f3.f5))) (fun _ hk => hk.2) (.string ((rd_T36 l0 x35_1).f4))) (fun _ hk => trivial)⟩,⟨by (with_reducible repeat (first|refine blk_drewN ?_ _|refine blk_drew ?_|refine blk_alloc ?_ _));refine blk_far ?_ NB281_283.out _;(with_reducible repeat (first|refine blk_drewN ?_ _|refine blk_drew ?_|refine blk_alloc ?_ _));refine blk_far ?_ NB281_283.out _;(with_reducible repeat (first|refine blk_drewN ?_ _|refine blk_drew ?_|refine blk_alloc ?_ _));refine blk_far ?_ NB281_283.out _;(with_reducible repeat (first|refine blk_drewN ?_ _|refine blk_drew ?_|refine blk_alloc ?_ _));refine blk_far ?_ NB281_283.out _;(with_reducible repeat (first|refine blk_drewN ?_ _|refine blk_drew ?_|refine blk_alloc ?_ _));refine blk_far ?_ NB281_283.out _;(with_reducible repeat (first|refine blk_drewN ?_ _|refine blk_drew ?_|refine blk_alloc ?_ _));refine blk_far ?_ NB281_283.out _;(with_reducible repeat (first|refine blk_drewN ?_ _|refine blk_drew ?_|refine blk_alloc ?_ _));refine blk_far ?_ NB281_283.out _;(with_reducible repeat (first|refine blk_drewN ?_ _|refine blk_drew ?_|refine blk_alloc ?_ _));refine blk_far ?_ NB281_283.out _;(with_reducible repeat (first|refine blk_drewN ?_ _|refine blk_drew ?_|refine blk_alloc ?_ _));refine blk_far ?_ NB281_283.out _;(with_reducible repeat (first|refine blk_drewN ?_ _|refine blk_drew ?_|refine blk_alloc ?_ _));refine blk_far ?_ NB281_283.out _;(with_reducible repeat (first|refine blk_drewN ?_ _|refine blk_drew ?_|refine blk_alloc ?_ _));exact BK281.out⟩,⟨by (with_reducible repeat (first|refine blk_drewN ?_ _|refine blk_drew ?_|refine blk_alloc ?_ _));refine blk_put (cs:=#[.int .i64 ((rd_T36 l0 x35_1).f0),.int .i64 ((rd_T36 l0 x35_1).f1),.bool ((rd_T36 l0 x35_1).f2),.int .i64 ((rd_T36 l0 x35_1).f3.f0),.int .i64 ((rd_T36 l0 x35_1).f3.f1),.int .i64 ((rd_T36 l0 x35_1).f3.f2),.int .i64 ((rd_T36 l0 x35_1).f3.f3),.int .i64 ((rd_T36 l0 x35_1).f3.f4),.bool ((rd_T36 l0 x35_1).f3.f5),.string (⟨#[]⟩ : ByteArray)]) ?_ 9 _ rfl;(with_reducible repeat (first|refine blk_drewN ?_ _|refine blk_drew ?_|refine blk_alloc ?_ _));refine blk_put (cs:=#[.int .i64 ((rd_T36 l0 x35_1).f0),.int .i64 ((rd_T36 l0 x35_1).f1),.bool ((rd_T36 l0 x35_1).f2),.int .i64 ((rd_T36 l0 x35_1).f3.f0),.int .i64 ((rd_T36 l0 x35_1).f3.f1),.int .i64 ((rd_T36 l0 x35_1).f3.f2),.int .i64 ((rd_T36 l0 x35_1).f3.f3),.int .i64 ((rd_T36 l0 x35_1).f3.f4),.bool false,.string (⟨#[]⟩ : ByteArray)]) ?_ 8 _ rfl;(with_reducible repeat (first|refine blk_drewN ?_ _|refine blk_drew ?_|refine blk_alloc ?_ _));refine blk_put (cs:=#[.int .i64 ((rd_T36 l0 x35_1).f0),.int .i64 ((rd_T36 l0 x35_1).f1),.bool ((rd_T36 l0 x35_1).f2),.int .i64 ((rd_T36 l0 x35_1).f3.f0),.int .i64 ((rd_T36 l0 x35_1).f3.f1),.int .i64 ((rd_T36 l0 x35_1).f3.f2),.int .i64 ((rd_T36 l0 x35_1).f3.f3),.int .i64 0,.bool false,.string (⟨#[]⟩ : ByteArray)]) ?_ 7 _ rfl;(with_reducible repeat (first|refine blk_drewN ?_ _|refine blk_drew ?_|refine blk_alloc ?_ _));refine blk_put (cs:=#[.int .i64 ((rd_T36 l0 x35_1).f0),.int .i64 ((rd_T36 l0 x35_1).f1),.bool ((rd_T36 l0 x35_1).f2),.int .i64 ((rd_T36 l0 x35_1).f3.f0),.int .i64 ((rd_T36 l0 x35_1).f3.f1),.int .i64 ((rd_T36 l0 x35_1).f3.f2),.int .i64 0,.int .i64 0,.bool false,.string (⟨#[]⟩ : ByteArray)]) ?_ 6 _ rfl;(with_reducible repeat (first|refine blk_drewN ?_ _|refine blk_drew ?_|refine blk_alloc ?_ _));refine blk_put (cs:=#[.int .i64 ((rd_T36 l0 x35_1).f0),.int .i64 ((rd_T36 l0 x35_1).f1),.bool ((rd_T36 l0 x35_1).f2),.int .i64 ((rd_T36 l0 x35_1).f3.f0),.int .i64 ((rd_T36 l0 x35_1).f3.f1),.int .i64 0,.int .i64 0,.int .i64 0,.bool false,.string (⟨#[]⟩ : ByteArray)]) ?_ 5 _ rfl;(with_reducible repeat (first|refine blk_drewN ?_ _|refine blk_drew ?_|refine blk_alloc ?_ _));refine blk_put (cs:=#[.int .i64 ((rd_T36 l0 x35_1).f0),.int .i64 ((rd_T36 l0 x35_1).f1),.bool ((rd_T36 l0 x35_1).f2),.int .i64 ((rd_T36 l0 x35_1).f3.f0),.int .i64 0,.int .i64 0,.int .i64 0,.int .i64 0,.bool false,.string (⟨#[]⟩ : ByteArray)]) ?_ 4 _ rfl;(with_reducible repeat (first|refine blk_drewN ?_ _|refine blk_drew ?_|refine blk_alloc ?_ _));refine blk_put (cs:=#[.int .i64 ((rd_T36 l0 x35_1).f0),.int .i64 ((rd_T36 l0 x35_1).f1),.bool ((rd_T36 l0 x35_1).f2),.int .i64 0,.int .i64 0,.int .i64 0,.int .i64 0,.int .i64 0,.bool false,.string (⟨#[]⟩ : ByteArray)]) ?_ 3 _ rfl;(with_reducible repeat (first|refine blk_drewN ?_ _|refine blk_drew ?_|refine blk_alloc ?_ _));refine blk_put (cs:=#[.int .i64 ((rd_T36 l0 x35_1).f0),.int .i64 ((rd_T36 l0 x35_1).f1),.bool false,.int .i64 0,.int .i64 0,.int .i64 0,.int .i64 0,.int .i64 0,.bool false,.string (⟨#[]⟩ : ByteArray)]) ?_ 2 _ rfl;(with_reducible repeat (first|refine blk_drewN ?_ _|refine blk_drew ?_|refine blk_alloc ?_ _));refine blk_put (cs:=#[.int .i64 ((rd_T36 l0 x35_1).f0),.int .i64 0,.bool false,.int .i64 0,.int .i64 0,.int .i64 0,.int .i64 0,.int .i64 0,.bool false,.string (⟨#[]⟩ : ByteArray)]) ?_ 1 _ rfl;(with_reducible repeat (first|refine blk_drewN ?_ _|refine blk_drew ?_|refine blk_alloc ?_ _));refine blk_put (cs:=#[.int .i64 0,.int .i64 0,.bool false,.int .i64 0,.int .i64 0,.int .i64 0,.int .i64 0,.int .i64 0,.bool false,.string (⟨#[]⟩ : ByteArray)]) ?_ 0 _ rfl;(with_reducible repeat (first|refine blk_drewN ?_ _|refine blk_drew ?_|refine blk_alloc ?_ _));exact BK283.out⟩,⟨by repeat (first|(with_reducible first|exact HB.out|apply below_alloc|apply pw_below_drewN|apply below_drew1|refine below_set ?_ GE281.out|refine below_set ?_ GE283.out)|exact HB.out)⟩⟩
         ·rw [if_neg c25] at H
          have c25b0 : decide (((rd_T36 l0 x35_1).f0) < 0) = false := decide_eq_false c25
          clear c25
          (first | rw [c25b0] | (simp only [i64_w, i32_w]; rw [c25b0]) | skip)
          by_cases c28 : ((rd_T36 l0 x35_1).f0) ≥ a1
          ·rw [if_pos c28] at H
           have c28b0 : decide (a1 ≤ ((rd_T36 l0 x35_1).f0)) = true := decide_eq_true c28
           clear c28
           have H' := Aside0.mk H
           clear H
           have hnb29 := NB283_281.out
           have hnc29 := NB281_283.out
           have hcz30_0 : w22.cell? ⟨gb283,0,none⟩ = some (.int .i64 0):=(blk_cell BK283.out 0).trans rfl
           have hcz30_1 : w22.cell? ⟨gb283,1,none⟩ = some (.int .i64 0):=(blk_cell BK283.out 1).trans rfl
           have hcz30_2 : w22.cell? ⟨gb283,2,none⟩ = some (.bool false):=(blk_cell BK283.out 2).trans rfl
           have hcz30_3 : w22.cell? ⟨gb283,3,none⟩ = some (.int .i64 0):=(blk_cell BK283.out 3).trans rfl
           have hcz30_4 : w22.cell? ⟨gb283,4,none⟩ = some (.int .i64 0):=(blk_cell BK283.out 4).trans rfl
           have hcz30_5 : w22.cell? ⟨gb283,5,none⟩ = some (.int .i64 0):=(blk_cell BK283.out 5).trans rfl
           have hcz30_6 : w22.cell? ⟨gb283,6,none⟩ = some (.int .i64 0):=(blk_cell BK283.out 6).trans rfl
           have hcz30_7 : w22.cell? ⟨gb283,7,none⟩ = some (.int .i64 0):=(blk_cell BK283.out 7).trans rfl
           have hcz30_8 : w22.cell? ⟨gb283,8,none⟩ = some (.bool false):=(blk_cell BK283.out 8).trans rfl
           have hcz30_9 : w22.cell? ⟨gb283,9,none⟩ = some (.string (⟨#[]⟩ : ByteArray)):=(blk_cell BK283.out 9).trans rfl
           have hfz30_0 := blk_frozen BK283.out 0
           have hfz30_1 := blk_frozen BK283.out 1
           have hfz30_2 := blk_frozen BK283.out 2
           have hfz30_3 := blk_frozen BK283.out 3
           have hfz30_4 := blk_frozen BK283.out 4
           have hfz30_5 := blk_frozen BK283.out 5
           have hfz30_6 := blk_frozen BK283.out 6
           have hfz30_7 := blk_frozen BK283.out 7
           have hfz30_8 := blk_frozen BK283.out 8
           have hfz30_9 := blk_frozen BK283.out 9
           go_wp2
           go_meet
           case rel => exact ⟨_,(true),(by first|rfl|(simp;done)|(simp [*];done)),H',⟨by have:=HK1.out;first|omega|exact Nat.le_refl _⟩,⟨by (with_reducible repeat (first|apply Kd.R_alloc|apply Kd.R_drewN|apply Kd.R_drew));exact Kd.R_mono (Kd.R_far (p:=⟨gb283,9,none⟩) (Kd.R_far (p:=⟨gb283,8,none⟩) (Kd.R_far (p:=⟨gb283,7,none⟩) (Kd.R_far (p:=⟨gb283,6,none⟩) (Kd.R_far (p:=⟨gb283,5,none⟩) (Kd.R_far (p:=⟨gb283,4,none⟩) (Kd.R_far (p:=⟨gb283,3,none⟩) (Kd.R_far (p:=⟨gb283,2,none⟩) (Kd.R_far (p:=⟨gb283,1,none⟩) (Kd.R_far (p:=⟨gb283,0,none⟩) (Kd.R_types HO_282000.out BK283.out (by decide)) (fun _ hk => hk.2) (.int .i64 ((rd_T36 l0 x35_1).f0))) (fun _ hk => hk.2) (.int .i64 ((rd_T36 l0 x35_1).f1))) (fun _ hk => hk.2) (.bool ((rd_T36 l0 x35_1).f2))) (fun _ hk => hk.2) (.int .i64 ((rd_T36 l0 x35_1).f3.f0))) (fun _ hk => hk.2) (.int .i64 ((rd_T36 l0 x35_1).f3.f1))) (fun _ hk => hk.2) (.int .i64 ((rd_T36 l0 x35_1).f3.f2))) (fun _ hk => hk.2) (.int .i64 ((rd_T36 l0 x35_1).f3.f3))) (fun _ hk => hk.2) (.int .i64 ((rd_T36 l0 x35_1).f3.f4))) (fun _ hk => hk.2) (.bool ((rd_T36 l0 x35_1).f3.f5))) (fun _ hk => hk.2) (.string ((rd_T36 l0 x35_1).f4))) (fun _ hk => trivial)⟩,⟨by (with_reducible repeat (first|apply Kd.R_alloc|apply Kd.R_drewN|apply Kd.R_drew));exact Kd.R_mono (Kd.R_far (p:=⟨gb283,9,none⟩) (Kd.R_far (p:=⟨gb283,8,none⟩) (Kd.R_far (p:=⟨gb283,7,none⟩) (Kd.R_far (p:=⟨gb283,6,none⟩) (Kd.R_far (p:=⟨gb283,5,none⟩) (Kd.R_far (p:=⟨gb283,4,none⟩) (Kd.R_far (p:=⟨gb283,3,none⟩) (Kd.R_far (p:=⟨gb283,2,none⟩) (Kd.R_far (p:=⟨gb283,1,none⟩) (Kd.R_far (p:=⟨gb283,0,none⟩) (Kd.R_types HO_282001.out BK283.out (by decide)) (fun _ hk => hk.2) (.int .i64 ((rd_T36 l0 x35_1).f0))) (fun _ hk => hk.2) (.int .i64 ((rd_T36 l0 x35_1).f1))) (fun _ hk => hk.2) (.bool ((rd_T36 l0 x35_1).f2))) (fun _ hk => hk.2) (.int .i64 ((rd_T36 l0 x35_1).f3.f0))) (fun _ hk => hk.2) (.int .i64 ((rd_T36 l0 x35_1).f3.f1))) (fun _ hk => hk.2) (.int .i64 ((rd_T36 l0 x35_1).f3.f2))) (fun _ hk => hk.2) (.int .i64 ((rd_T36 l0 x35_1).f3.f3))) (fun _ hk => hk.2) (.int .i64 ((rd_T36 l0 x35_1).f3.f4))) (fun _ hk => hk.2) (.bool ((rd_T36 l0 x35_1).f3.f5))) (fun _ hk => hk.2) (.string ((rd_T36 l0 x35_1).f4))) (fun _ hk => trivial)⟩,⟨by (with_reducible repeat (first|refine blk_drewN ?_ _|refine blk_drew ?_|refine blk_alloc ?_ _));refine blk_far ?_ NB281_283.out _;(with_reducible repeat (first|refine blk_drewN ?_ _|refine blk_drew ?_|refine blk_alloc ?_ _));refine blk_far ?_ NB281_283.out _;(with_reducible repeat (first|refine blk_drewN ?_ _|refine blk_drew ?_|refine blk_alloc ?_ _));refine blk_far ?_ NB281_283.out _;(with_reducible repeat (first|refine blk_drewN ?_ _|refine blk_drew ?_|refine blk_alloc ?_ _));refine blk_far ?_ NB281_283.out _;(with_reducible repeat (first|refine blk_drewN ?_ _|refine blk_drew ?_|refine blk_alloc ?_ _));refine blk_far ?_ NB281_283.out _;(with_reducible repeat (first|refine blk_drewN ?_ _|refine blk_drew ?_|refine blk_alloc ?_ _));refine blk_far ?_ NB281_283.out _;(with_reducible repeat (first|refine blk_drewN ?_ _|refine blk_drew ?_|refine blk_alloc ?_ _));refine blk_far ?_ NB281_283.out _;(with_reducible repeat (first|refine blk_drewN ?_ _|refine blk_drew ?_|refine blk_alloc ?_ _));refine blk_far ?_ NB281_283.out _;(with_reducible repeat (first|refine blk_drewN ?_ _|refine blk_drew ?_|refine blk_alloc ?_ _));refine blk_far ?_ NB281_283.out _;(with_reducible repeat (first|refine blk_drewN ?_ _|refine blk_drew ?_|refine blk_alloc ?_ _));refine blk_far ?_ NB281_283.out _;(with_reducible repeat (first|refine blk_drewN ?_ _|refine blk_drew ?_|refine blk_alloc ?_ _));exact BK281.out⟩,⟨by (with_reducible repeat (first|refine blk_drewN ?_ _|refine blk_drew ?_|refine blk_alloc ?_ _));refine blk_put (cs:=#[.int .i64 ((rd_T36 l0 x35_1).f0),.int .i64 ((rd_T36 l0 x35_1).f1),.bool ((rd_T36 l0 x35_1).f2),.int .i64 ((rd_T36 l0 x35_1).f3.f0),.int .i64 ((rd_T36 l0 x35_1).f3.f1),.int .i64 ((rd_T36 l0 x35_1).f3.f2),.int .i64 ((rd_T36 l0 x35_1).f3.f3),.int .i64 ((rd_T36 l0 x35_1).f3.f4),.bool ((rd_T36 l0 x35_1).f3.f5),.string (⟨#[]⟩ : ByteArray)]) ?_ 9 _ rfl;(with_reducible repeat (first|refine blk_drewN ?_ _|refine blk_drew ?_|refine blk_alloc ?_ _));refine blk_put (cs:=#[.int .i64 ((rd_T36 l0 x35_1).f0),.int .i64 ((rd_T36 l0 x35_1).f1),.bool ((rd_T36 l0 x35_1).f2),.int .i64 ((rd_T36 l0 x35_1).f3.f0),.int .i64 ((rd_T36 l0 x35_1).f3.f1),.int .i64 ((rd_T36 l0 x35_1).f3.f2),.int .i64 ((rd_T36 l0 x35_1).f3.f3),.int .i64 ((rd_T36 l0 x35_1).f3.f4),.bool false,.string (⟨#[]⟩ : ByteArray)]) ?_ 8 _ rfl;(with_reducible repeat (first|refine blk_drewN ?_ _|refine blk_drew ?_|refine blk_alloc ?_ _));refine blk_put (cs:=#[.int .i64 ((rd_T36 l0 x35_1).f0),.int .i64 ((rd_T36 l0 x35_1).f1),.bool ((rd_T36 l0 x35_1).f2),.int .i64 ((rd_T36 l0 x35_1).f3.f0),.int .i64 ((rd_T36 l0 x35_1).f3.f1),.int .i64 ((rd_T36 l0 x35_1).f3.f2),.int .i64 ((rd_T36 l0 x35_1).f3.f3),.int .i64 0,.bool false,.string (⟨#[]⟩ : ByteArray)]) ?_ 7 _ rfl;(with_reducible repeat (first|refine blk_drewN ?_ _|refine blk_drew ?_|refine blk_alloc ?_ _));refine blk_put (cs:=#[.int .i64 ((rd_T36 l0 x35_1).f0),.int .i64 ((rd_T36 l0 x35_1).f1),.bool ((rd_T36 l0 x35_1).f2),.int .i64 ((rd_T36 l0 x35_1).f3.f0),.int .i64 ((rd_T36 l0 x35_1).f3.f1),.int .i64 ((rd_T36 l0 x35_1).f3.f2),.int .i64 0,.int .i64 0,.bool false,.string (⟨#[]⟩ : ByteArray)]) ?_ 6 _ rfl;(with_reducible repeat (first|refine blk_drewN ?_ _|refine blk_drew ?_|refine blk_alloc ?_ _));refine blk_put (cs:=#[.int .i64 ((rd_T36 l0 x35_1).f0),.int .i64 ((rd_T36 l0 x35_1).f1),.bool ((rd_T36 l0 x35_1).f2),.int .i64 ((rd_T36 l0 x35_1).f3.f0),.int .i64 ((rd_T36 l0 x35_1).f3.f1),.int .i64 0,.int .i64 0,.int .i64 0,.bool false,.string (⟨#[]⟩ : ByteArray)]) ?_ 5 _ rfl;(with_reducible repeat (first|refine blk_drewN ?_ _|refine blk_drew ?_|refine blk_alloc ?_ _));refine blk_put (cs:=#[.int .i64 ((rd_T36 l0 x35_1).f0),.int .i64 ((rd_T36 l0 x35_1).f1),.bool ((rd_T36 l0 x35_1).f2),.int .i64 ((rd_T36 l0 x35_1).f3.f0),.int .i64 0,.int .i64 0,.int .i64 0,.int .i64 0,.bool false,.string (⟨#[]⟩ : ByteArray)]) ?_ 4 _ rfl;(with_reducible repeat (first|refine blk_drewN ?_ _|refine blk_drew ?_|refine blk_alloc ?_ _));refine blk_put (cs:=#[.int .i64 ((rd_T36 l0 x35_1).f0),.int .i64 ((rd_T36 l0 x35_1).f1),.bool ((rd_T36 l0 x35_1).f2),.int .i64 0,.int .i64 0,.int .i64 0,.int .i64 0,.int .i64 0,.bool false,.string (⟨#[]⟩ : ByteArray)]) ?_ 3 _ rfl;(with_reducible repeat (first|refine blk_drewN ?_ _|refine blk_drew ?_|refine blk_alloc ?_ _));refine blk_put (cs:=#[.int .i64 ((rd_T36 l0 x35_1).f0),.int .i64 ((rd_T36 l0 x35_1).f1),.bool false,.int .i64 0,.int .i64 0,.int .i64 0,.int .i64 0,.int .i64 0,.bool false,.string (⟨#[]⟩ : ByteArray)]) ?_ 2 _ rfl;(with_reducible repeat (first|refine blk_drewN ?_ _|refine blk_drew ?_|refine blk_alloc ?_ _));refine blk_put (cs:=#[.int .i64 ((rd_T36 l0 x35_1).f0),.int .i64 0,.bool false,.int .i64 0,.int .i64 0,.int .i64 0,.int .i64 0,.int .i64 0,.bool false,.string (⟨#[]⟩ : ByteArray)]) ?_ 1 _ rfl;(with_reducible repeat (first|refine blk_drewN ?_ _|refine blk_drew ?_|refine blk_alloc ?_ _));refine blk_put (cs:=#[.int .i64 0,.int .i64 0,.bool false,.int .i64 0,.int .i64 0,.int .i64 0,.int .i64 0,.int .i64 0,.bool false,.string (⟨#[]⟩ : ByteArray)]) ?_ 0 _ rfl;(with_reducible repeat (first|refine blk_drewN ?_ _|refine blk_drew ?_|refine blk_alloc ?_ _));exact BK283.out⟩,⟨by repeat (first|(with_reducible first|exact HB.out|apply below_alloc|apply pw_below_drewN|apply below_drew1|refine below_set ?_ GE281.out|refine below_set ?_ GE283.out)|exact HB.out)⟩⟩
          ·rw [if_neg c28] at H
           have c28b0 : decide (a1 ≤ ((rd_T36 l0 x35_1).f0)) = false := decide_eq_false c28
           clear c28
           replace H := Option.bind_eq_some_iff.mp H
           obtain ⟨t284, A310, H⟩ := H
           replace H : (if t284 = true then (almshouselaw17_HealKeeps.j1 k1 l0 a1 a2 a3 a4 l0 (l0.length : Int) x35_1 (decide (((rd_T36 l0 x35_1).f3.f2) ≥ a4)) t274 t277 t280 ((rd_T36 l0 x35_1).f0) ((rd_T36 l0 x35_1).f1) ((rd_T36 l0 x35_1).f2) ((rd_T36 l0 x35_1).f3.f0) ((rd_T36 l0 x35_1).f3.f1) ((rd_T36 l0 x35_1).f3.f2) ((rd_T36 l0 x35_1).f3.f3) ((rd_T36 l0 x35_1).f3.f4) ((rd_T36 l0 x35_1).f3.f5) ((rd_T36 l0 x35_1).f4)) else (almshouselaw17_HealKeeps.j1 k1 l0 a1 a2 a3 a4 l0 (l0.length : Int) x35_1 true t274 t277 t280 ((rd_T36 l0 x35_1).f0) ((rd_T36 l0 x35_1).f1) ((rd_T36 l0 x35_1).f2) ((rd_T36 l0 x35_1).f3.f0) ((rd_T36 l0 x35_1).f3.f1) ((rd_T36 l0 x35_1).f3.f2) ((rd_T36 l0 x35_1).f3.f3) ((rd_T36 l0 x35_1).f3.f4) ((rd_T36 l0 x35_1).f3.f5) ((rd_T36 l0 x35_1).f4))) = some r:=H
           have A31 := Aside0.mk A310
           clear A310
           by_cases c32 : t284 = true
           ·subst c32
            have H1 : (almshouselaw17_HealKeeps.j1 k1 l0 a1 a2 a3 a4 l0 (l0.length : Int) x35_1 (decide (((rd_T36 l0 x35_1).f3.f2) ≥ a4)) t274 t277 t280 ((rd_T36 l0 x35_1).f0) ((rd_T36 l0 x35_1).f1) ((rd_T36 l0 x35_1).f2) ((rd_T36 l0 x35_1).f3.f0) ((rd_T36 l0 x35_1).f3.f1) ((rd_T36 l0 x35_1).f3.f2) ((rd_T36 l0 x35_1).f3.f3) ((rd_T36 l0 x35_1).f3.f4) ((rd_T36 l0 x35_1).f3.f5) ((rd_T36 l0 x35_1).f4)) = some r:=by rw [if_pos rfl] at H;exact H
            clear H
            have H := H1
            clear H1
            have H' := Aside0.mk H
            clear H
            have hnb33 := NB283_281.out
            have hnc33 := NB281_283.out
            have hcz34_0 : w22.cell? ⟨gb283,0,none⟩ = some (.int .i64 0):=(blk_cell BK283.out 0).trans rfl
            have hcz34_1 : w22.cell? ⟨gb283,1,none⟩ = some (.int .i64 0):=(blk_cell BK283.out 1).trans rfl
            have hcz34_2 : w22.cell? ⟨gb283,2,none⟩ = some (.bool false):=(blk_cell BK283.out 2).trans rfl
            have hcz34_3 : w22.cell? ⟨gb283,3,none⟩ = some (.int .i64 0):=(blk_cell BK283.out 3).trans rfl
            have hcz34_4 : w22.cell? ⟨gb283,4,none⟩ = some (.int .i64 0):=(blk_cell BK283.out 4).trans rfl
            have hcz34_5 : w22.cell? ⟨gb283,5,none⟩ = some (.int .i64 0):=(blk_cell BK283.out 5).trans rfl
            have hcz34_6 : w22.cell? ⟨gb283,6,none⟩ = some (.int .i64 0):=(blk_cell BK283.out 6).trans rfl
            have hcz34_7 : w22.cell? ⟨gb283,7,none⟩ = some (.int .i64 0):=(blk_cell BK283.out 7).trans rfl
            have hcz34_8 : w22.cell? ⟨gb283,8,none⟩ = some (.bool false):=(blk_cell BK283.out 8).trans rfl
            have hcz34_9 : w22.cell? ⟨gb283,9,none⟩ = some (.string (⟨#[]⟩ : ByteArray)):=(blk_cell BK283.out 9).trans rfl
            have hfz34_0 := blk_frozen BK283.out 0
            have hfz34_1 := blk_frozen BK283.out 1
            have hfz34_2 := blk_frozen BK283.out 2
            have hfz34_3 := blk_frozen BK283.out 3
            have hfz34_4 := blk_frozen BK283.out 4
            have hfz34_5 := blk_frozen BK283.out 5
            have hfz34_6 := blk_frozen BK283.out 6
            have hfz34_7 := blk_frozen BK283.out 7
            have hfz34_8 := blk_frozen BK283.out 8
            have hfz34_9 := blk_frozen BK283.out 9
            go_wp2_with (first|(go_at_call 13;(with_reducible refine (almshouseref17_Mine.calls ((rd_T36 l0 x35_1).f0) ((rd_T36 l0 x35_1).f1) ((rd_T36 l0 x35_1).f2) ((rd_T36 l0 x35_1).f3.f0) ((rd_T36 l0 x35_1).f3.f1) ((rd_T36 l0 x35_1).f3.f2) ((rd_T36 l0 x35_1).f3.f3) ((rd_T36 l0 x35_1).f3.f4) ((rd_T36 l0 x35_1).f3.f5) ((rd_T36 l0 x35_1).f4) a2 a3 true _ A31.out).mono ?_);rintro e w35 ⟨rfl,hb⟩;have n0_:=Aside0.mk (Kd.R_below (by (with_reducible repeat (first|apply Kd.R_alloc|apply Kd.R_drewN|apply Kd.R_drew));exact (Kd.R_mono (Kd.R_far (p:=⟨gb283,9,none⟩) (Kd.R_far (p:=⟨gb283,8,none⟩) (Kd.R_far (p:=⟨gb283,7,none⟩) (Kd.R_far (p:=⟨gb283,6,none⟩) (Kd.R_far (p:=⟨gb283,5,none⟩) (Kd.R_far (p:=⟨gb283,4,none⟩) (Kd.R_far (p:=⟨gb283,3,none⟩) (Kd.R_far (p:=⟨gb283,2,none⟩) (Kd.R_far (p:=⟨gb283,1,none⟩) (Kd.R_far (p:=⟨gb283,0,none⟩) (Kd.R_types HO_282000.out BK283.out (by decide)) (fun _ hk => hk.2) (.int .i64 ((rd_T36 l0 x35_1).f0))) (fun _ hk => hk.2) (.int .i64 ((rd_T36 l0 x35_1).f1))) (fun _ hk => hk.2) (.bool ((rd_T36 l0 x35_1).f2))) (fun _ hk => hk.2) (.int .i64 ((rd_T36 l0 x35_1).f3.f0))) (fun _ hk => hk.2) (.int .i64 ((rd_T36 l0 x35_1).f3.f1))) (fun _ hk => hk.2) (.int .i64 ((rd_T36 l0 x35_1).f3.f2))) (fun _ hk => hk.2) (.int .i64 ((rd_T36 l0 x35_1).f3.f3))) (fun _ hk => hk.2) (.int .i64 ((rd_T36 l0 x35_1).f3.f4))) (fun _ hk => hk.2) (.bool ((rd_T36 l0 x35_1).f3.f5))) (fun _ hk => hk.2) (.string ((rd_T36 l0 x35_1).f4))) (fun _ h_ => h_.1))) hb);have n1_:=Aside0.mk (Kd.R_below (by (with_reducible repeat (first|apply Kd.R_alloc|apply Kd.R_drewN|apply Kd.R_drew));exact (Kd.R_mono (Kd.R_far (p:=⟨gb283,9,none⟩) (Kd.R_far (p:=⟨gb283,8,none⟩) (Kd.R_far (p:=⟨gb283,7,none⟩) (Kd.R_far (p:=⟨gb283,6,none⟩) (Kd.R_far (p:=⟨gb283,5,none⟩) (Kd.R_far (p:=⟨gb283,4,none⟩) (Kd.R_far (p:=⟨gb283,3,none⟩) (Kd.R_far (p:=⟨gb283,2,none⟩) (Kd.R_far (p:=⟨gb283,1,none⟩) (Kd.R_far (p:=⟨gb283,0,none⟩) (Kd.R_types HO_282001.out BK283.out (by decide)) (fun _ hk => hk.2) (.int .i64 ((rd_T36 l0 x35_1).f0))) (fun _ hk => hk.2) (.int .i64 ((rd_T36 l0 x35_1).f1))) (fun _ hk => hk.2) (.bool ((rd_T36 l0 x35_1).f2))) (fun _ hk => hk.2) (.int .i64 ((rd_T36 l0 x35_1).f3.f0))) (fun _ hk => hk.2) (.int .i64 ((rd_T36 l0 x35_1).f3.f1))) (fun _ hk => hk.2) (.int .i64 ((rd_T36 l0 x35_1).f3.f2))) (fun _ hk => hk.2) (.int .i64 ((rd_T36 l0 x35_1).f3.f3))) (fun _ hk => hk.2) (.int .i64 ((rd_T36 l0 x35_1).f3.f4))) (fun _ hk => hk.2) (.bool ((rd_T36 l0 x35_1).f3.f5))) (fun _ hk => hk.2) (.string ((rd_T36 l0 x35_1).f4))) (fun _ h_ => h_.1))) hb);have n2_:=Aside0.mk (blk_below (g:=gb281) (o:=.cells #[.slice Ao15 t274.length co15,.slice Ao17 t277.length co17,.int .i64 t280] 28 (0,0)) (by (with_reducible repeat (first|refine blk_drewN ?_ _|refine blk_drew ?_|refine blk_alloc ?_ _));refine blk_far ?_ NB281_283.out _;(with_reducible repeat (first|refine blk_drewN ?_ _|refine blk_drew ?_|refine blk_alloc ?_ _));refine blk_far ?_ NB281_283.out _;(with_reducible repeat (first|refine blk_drewN ?_ _|refine blk_drew ?_|refine blk_alloc ?_ _));refine blk_far ?_ NB281_283.out _;(with_reducible repeat (first|refine blk_drewN ?_ _|refine blk_drew ?_|refine blk_alloc ?_ _));refine blk_far ?_ NB281_283.out _;(with_reducible repeat (first|refine blk_drewN ?_ _|refine blk_drew ?_|refine blk_alloc ?_ _));refine blk_far ?_ NB281_283.out _;(with_reducible repeat (first|refine blk_drewN ?_ _|refine blk_drew ?_|refine blk_alloc ?_ _));refine blk_far ?_ NB281_283.out _;(with_reducible repeat (first|refine blk_drewN ?_ _|refine blk_drew ?_|refine blk_alloc ?_ _));refine blk_far ?_ NB281_283.out _;(with_reducible repeat (first|refine blk_drewN ?_ _|refine blk_drew ?_|refine blk_alloc ?_ _));refine blk_far ?_ NB281_283.out _;(with_reducible repeat (first|refine blk_drewN ?_ _|refine blk_drew ?_|refine blk_alloc ?_ _));refine blk_far ?_ NB281_283.out _;(with_reducible repeat (first|refine blk_drewN ?_ _|refine blk_drew ?_|refine blk_alloc ?_ _));refine blk_far ?_ NB281_283.out _;(with_reducible repeat (first|refine blk_drewN ?_ _|refine blk_drew ?_|refine blk_alloc ?_ _));exact BK281.out) hb);have n3_:=Aside0.mk (blk_below (g:=gb283) (o:=.cells #[.int .i64 ((rd_T36 l0 x35_1).f0),.int .i64 ((rd_T36 l0 x35_1).f1),.bool ((rd_T36 l0 x35_1).f2),.int .i64 ((rd_T36 l0 x35_1).f3.f0),.int .i64 ((rd_T36 l0 x35_1).f3.f1),.int .i64 ((rd_T36 l0 x35_1).f3.f2),.int .i64 ((rd_T36 l0 x35_1).f3.f3),.int .i64 ((rd_T36 l0 x35_1).f3.f4),.bool ((rd_T36 l0 x35_1).f3.f5),.string ((rd_T36 l0 x35_1).f4)] 36 (0,0)) (by (with_reducible repeat (first|refine blk_drewN ?_ _|refine blk_drew ?_|refine blk_alloc ?_ _));refine blk_put (cs:=#[.int .i64 ((rd_T36 l0 x35_1).f0),.int .i64 ((rd_T36 l0 x35_1).f1),.bool ((rd_T36 l0 x35_1).f2),.int .i64 ((rd_T36 l0 x35_1).f3.f0),.int .i64 ((rd_T36 l0 x35_1).f3.f1),.int .i64 ((rd_T36 l0 x35_1).f3.f2),.int .i64 ((rd_T36 l0 x35_1).f3.f3),.int .i64 ((rd_T36 l0 x35_1).f3.f4),.bool ((rd_T36 l0 x35_1).f3.f5),.string (⟨#[]⟩ : ByteArray)]) ?_ 9 _ rfl;(with_reducible repeat (first|refine blk_drewN ?_ _|refine blk_drew ?_|refine blk_alloc ?_ _));refine blk_put (cs:=#[.int .i64 ((rd_T36 l0 x35_1).f0),.int .i64 ((rd_T36 l0 x35_1).f1),.bool ((rd_T36 l0 x35_1).f2),.int .i64 ((rd_T36 l0 x35_1).f3.f0),.int .i64 ((rd_T36 l0 x35_1).f3.f1),.int .i64 ((rd_T36 l0 x35_1).f3.f2),.int .i64 ((rd_T36 l0 x35_1).f3.f3),.int .i64 ((rd_T36 l0 x35_1).f3.f4),.bool false,.string (⟨#[]⟩ : ByteArray)]) ?_ 8 _ rfl;(with_reducible repeat (first|refine blk_drewN ?_ _|refine blk_drew ?_|refine blk_alloc ?_ _));refine blk_put (cs:=#[.int .i64 ((rd_T36 l0 x35_1).f0),.int .i64 ((rd_T36 l0 x35_1).f1),.bool ((rd_T36 l0 x35_1).f2),.int .i64 ((rd_T36 l0 x35_1).f3.f0),.int .i64 ((rd_T36 l0 x35_1).f3.f1),.int .i64 ((rd_T36 l0 x35_1).f3.f2),.int .i64 ((rd_T36 l0 x35_1).f3.f3),.int .i64 0,.bool false,.string (⟨#[]⟩ : ByteArray)]) ?_ 7 _ rfl;(with_reducible repeat (first|refine blk_drewN ?_ _|refine blk_drew ?_|refine blk_alloc ?_ _));refine blk_put (cs:=#[.int .i64 ((rd_T36 l0 x35_1).f0),.int .i64 ((rd_T36 l0 x35_1).f1),.bool ((rd_T36 l0 x35_1).f2),.int .i64 ((rd_T36 l0 x35_1).f3.f0),.int .i64 ((rd_T36 l0 x35_1).f3.f1),.int .i64 ((rd_T36 l0 x35_1).f3.f2),.int .i64 0,.int .i64 0,.bool false,.string (⟨#[]⟩ : ByteArray)]) ?_ 6 _ rfl;(with_reducible repeat (first|refine blk_drewN ?_ _|refine blk_drew ?_|refine blk_alloc ?_ _));refine blk_put (cs:=#[.int .i64 ((rd_T36 l0 x35_1).f0),.int .i64 ((rd_T36 l0 x35_1).f1),.bool ((rd_T36 l0 x35_1).f2),.int .i64 ((rd_T36 l0 x35_1).f3.f0),.int .i64 ((rd_T36 l0 x35_1).f3.f1),.int .i64 0,.int .i64 0,.int .i64 0,.bool false,.string (⟨#[]⟩ : ByteArray)]) ?_ 5 _ rfl;(with_reducible repeat (first|refine blk_drewN ?_ _|refine blk_drew ?_|refine blk_alloc ?_ _));refine blk_put (cs:=#[.int .i64 ((rd_T36 l0 x35_1).f0),.int .i64 ((rd_T36 l0 x35_1).f1),.bool ((rd_T36 l0 x35_1).f2),.int .i64 ((rd_T36 l0 x35_1).f3.f0),.int .i64 0,.int .i64 0,.int .i64 0,.int .i64 0,.bool false,.string (⟨#[]⟩ : ByteArray)]) ?_ 4 _ rfl;(with_reducible repeat (first|refine blk_drewN ?_ _|refine blk_drew ?_|refine blk_alloc ?_ _));refine blk_put (cs:=#[.int .i64 ((rd_T36 l0 x35_1).f0),.int .i64 ((rd_T36 l0 x35_1).f1),.bool ((rd_T36 l0 x35_1).f2),.int .i64 0,.int .i64 0,.int .i64 0,.int .i64 0,.int .i64 0,.bool false,.string (⟨#[]⟩ : ByteArray)]) ?_ 3 _ rfl;(with_reducible repeat (first|refine blk_drewN ?_ _|refine blk_drew ?_|refine blk_alloc ?_ _));refine blk_put (cs:=#[.int .i64 ((rd_T36 l0 x35_1).f0),.int .i64 ((rd_T36 l0 x35_1).f1),.bool false,.int .i64 0,.int .i64 0,.int .i64 0,.int .i64 0,.int .i64 0,.bool false,.string (⟨#[]⟩ : ByteArray)]) ?_ 2 _ rfl;(with_reducible repeat (first|refine blk_drewN ?_ _|refine blk_drew ?_|refine blk_alloc ?_ _));refine blk_put (cs:=#[.int .i64 ((rd_T36 l0 x35_1).f0),.int .i64 0,.bool false,.int .i64 0,.int .i64 0,.int .i64 0,.int .i64 0,.int .i64 0,.bool false,.string (⟨#[]⟩ : ByteArray)]) ?_ 1 _ rfl;(with_reducible repeat (first|refine blk_drewN ?_ _|refine blk_drew ?_|refine blk_alloc ?_ _));refine blk_put (cs:=#[.int .i64 0,.int .i64 0,.bool false,.int .i64 0,.int .i64 0,.int .i64 0,.int .i64 0,.int .i64 0,.bool false,.string (⟨#[]⟩ : ByteArray)]) ?_ 0 _ rfl;(with_reducible repeat (first|refine blk_drewN ?_ _|refine blk_drew ?_|refine blk_alloc ?_ _));exact BK283.out) hb);have n4_:=Aside0.mk (below_step (by repeat (first|(with_reducible first|exact HB.out|apply below_alloc|apply pw_below_drewN|apply below_drew1|refine below_set ?_ GE281.out|refine below_set ?_ GE283.out)|exact HB.out)) hb);clear HO_282000;clear HO_282001;clear BK281;clear BK283;clear HB;have HO_282000:=n0_;have HO_282001:=n1_;have BK281:=n2_;have BK283:=n3_;have HB:=n4_;clear n0_ n1_ n2_ n3_ n4_;(try clear hb);(try clear hb2);(try clear hk);(try clear hi);have hcz36_0 : w35.cell? ⟨gb283,0,none⟩ = some (.int .i64 ((rd_T36 l0 x35_1).f0)):=(blk_cell BK283.out 0).trans rfl;have hcz36_1 : w35.cell? ⟨gb283,1,none⟩ = some (.int .i64 ((rd_T36 l0 x35_1).f1)):=(blk_cell BK283.out 1).trans rfl;have hcz36_2 : w35.cell? ⟨gb283,2,none⟩ = some (.bool ((rd_T36 l0 x35_1).f2)):=(blk_cell BK283.out 2).trans rfl;have hcz36_3 : w35.cell? ⟨gb283,3,none⟩ = some (.int .i64 ((rd_T36 l0 x35_1).f3.f0)):=(blk_cell BK283.out 3).trans rfl;have hcz36_4 : w35.cell? ⟨gb283,4,none⟩ = some (.int .i64 ((rd_T36 l0 x35_1).f3.f1)):=(blk_cell BK283.out 4).trans rfl;have hcz36_5 : w35.cell? ⟨gb283,5,none⟩ = some (.int .i64 ((rd_T36 l0 x35_1).f3.f2)):=(blk_cell BK283.out 5).trans rfl;have hcz36_6 : w35.cell? ⟨gb283,6,none⟩ = some (.int .i64 ((rd_T36 l0 x35_1).f3.f3)):=(blk_cell BK283.out 6).trans rfl;have hcz36_7 : w35.cell? ⟨gb283,7,none⟩ = some (.int .i64 ((rd_T36 l0 x35_1).f3.f4)):=(blk_cell BK283.out 7).trans rfl;have hcz36_8 : w35.cell? ⟨gb283,8,none⟩ = some (.bool ((rd_T36 l0 x35_1).f3.f5)):=(blk_cell BK283.out 8).trans rfl;have hcz36_9 : w35.cell? ⟨gb283,9,none⟩ = some (.string ((rd_T36 l0 x35_1).f4)):=(blk_cell BK283.out 9).trans rfl;have hfz36_0:=blk_frozen BK283.out 0;have hfz36_1:=blk_frozen BK283.out 1;have hfz36_2:=blk_frozen BK283.out 2;have hfz36_3:=blk_frozen BK283.out 3;have hfz36_4:=blk_frozen BK283.out 4;have hfz36_5:=blk_frozen BK283.out 5;have hfz36_6:=blk_frozen BK283.out 6;have hfz36_7:=blk_frozen BK283.out 7;have hfz36_8:=blk_frozen BK283.out 8;have hfz36_9:=blk_frozen BK283.out 9))
            go_meet
            case rel => exact ⟨_,(decide (((rd_T36 l0 x35_1).f3.f2) ≥ a4)),(by first|rfl|(simp;done)|(simp [*];done)),H',⟨by have:=HK1.out;first|omega|exact Nat.le_refl _⟩,⟨by (with_reducible repeat (first|apply Kd.R_alloc|apply Kd.R_drewN|apply Kd.R_drew));exact HO_282000.out⟩,⟨by (with_reducible repeat (first|apply Kd.R_alloc|apply Kd.R_drewN|apply Kd.R_drew));exact HO_282001.out⟩,⟨by (with_reducible repeat (first|refine blk_drewN ?_ _|refine blk_drew ?_|refine blk_alloc ?_ _));exact BK281.out⟩,⟨by (with_reducible repeat (first|refine blk_drewN ?_ _|refine blk_drew ?_|refine blk_alloc ?_ _));exact BK283.out⟩,⟨by repeat (first|(with_reducible first|exact HB.out|apply below_alloc|apply pw_below_drewN|apply below_drew1|refine below_set ?_ GE281.out|refine below_set ?_ GE283.out)|exact HB.out)⟩⟩
           ·replace c32 := Bool.eq_false_iff.mpr c32
            subst c32
            have H1 : (almshouselaw17_HealKeeps.j1 k1 l0 a1 a2 a3 a4 l0 (l0.length : Int) x35_1 true t274 t277 t280 ((rd_T36 l0 x35_1).f0) ((rd_T36 l0 x35_1).f1) ((rd_T36 l0 x35_1).f2) ((rd_T36 l0 x35_1).f3.f0) ((rd_T36 l0 x35_1).f3.f1) ((rd_T36 l0 x35_1).f3.f2) ((rd_T36 l0 x35_1).f3.f3) ((rd_T36 l0 x35_1).f3.f4) ((rd_T36 l0 x35_1).f3.f5) ((rd_T36 l0 x35_1).f4)) = some r:=by rw [if_neg (show ¬ (false = true) by decide)] at H;exact H
            clear H
            have H := H1
            clear H1
            have H' := Aside0.mk H
            clear H
            have hnb37 := NB283_281.out
            have hnc37 := NB281_283.out
            have hcz38_0 : w22.cell? ⟨gb283,0,none⟩ = some (.int .i64 0):=(blk_cell BK283.out 0).trans rfl
            have hcz38_1 : w22.cell? ⟨gb283,1,none⟩ = some (.int .i64 0):=(blk_cell BK283.out 1).trans rfl
            have hcz38_2 : w22.cell? ⟨gb283,2,none⟩ = some (.bool false):=(blk_cell BK283.out 2).trans rfl
            have hcz38_3 : w22.cell? ⟨gb283,3,none⟩ = some (.int .i64 0):=(blk_cell BK283.out 3).trans rfl
            have hcz38_4 : w22.cell? ⟨gb283,4,none⟩ = some (.int .i64 0):=(blk_cell BK283.out 4).trans rfl
            have hcz38_5 : w22.cell? ⟨gb283,5,none⟩ = some (.int .i64 0):=(blk_cell BK283.out 5).trans rfl
            have hcz38_6 : w22.cell? ⟨gb283,6,none⟩ = some (.int .i64 0):=(blk_cell BK283.out 6).trans rfl
            have hcz38_7 : w22.cell? ⟨gb283,7,none⟩ = some (.int .i64 0):=(blk_cell BK283.out 7).trans rfl
            have hcz38_8 : w22.cell? ⟨gb283,8,none⟩ = some (.bool false):=(blk_cell BK283.out 8).trans rfl
            have hcz38_9 : w22.cell? ⟨gb283,9,none⟩ = some (.string (⟨#[]⟩ : ByteArray)):=(blk_cell BK283.out 9).trans rfl
            have hfz38_0 := blk_frozen BK283.out 0
            have hfz38_1 := blk_frozen BK283.out 1
            have hfz38_2 := blk_frozen BK283.out 2
            have hfz38_3 := blk_frozen BK283.out 3
            have hfz38_4 := blk_frozen BK283.out 4
            have hfz38_5 := blk_frozen BK283.out 5
            have hfz38_6 := blk_frozen BK283.out 6
            have hfz38_7 := blk_frozen BK283.out 7
            have hfz38_8 := blk_frozen BK283.out 8
            have hfz38_9 := blk_frozen BK283.out 9
            go_wp2_with (first|(go_at_call 13;(with_reducible refine (almshouseref17_Mine.calls ((rd_T36 l0 x35_1).f0) ((rd_T36 l0 x35_1).f1) ((rd_T36 l0 x35_1).f2) ((rd_T36 l0 x35_1).f3.f0) ((rd_T36 l0 x35_1).f3.f1) ((rd_T36 l0 x35_1).f3.f2) ((rd_T36 l0 x35_1).f3.f3) ((rd_T36 l0 x35_1).f3.f4) ((rd_T36 l0 x35_1).f3.f5) ((rd_T36 l0 x35_1).f4) a2 a3 false _ A31.out).mono ?_);rintro e w39 ⟨rfl,hb⟩;have n0_:=Aside0.mk (Kd.R_below (by (with_reducible repeat (first|apply Kd.R_alloc|apply Kd.R_drewN|apply Kd.R_drew));exact (Kd.R_mono (Kd.R_far (p:=⟨gb283,9,none⟩) (Kd.R_far (p:=⟨gb283,8,none⟩) (Kd.R_far (p:=⟨gb283,7,none⟩) (Kd.R_far (p:=⟨gb283,6,none⟩) (Kd.R_far (p:=⟨gb283,5,none⟩) (Kd.R_far (p:=⟨gb283,4,none⟩) (Kd.R_far (p:=⟨gb283,3,none⟩) (Kd.R_far (p:=⟨gb283,2,none⟩) (Kd.R_far (p:=⟨gb283,1,none⟩) (Kd.R_far (p:=⟨gb283,0,none⟩) (Kd.R_types HO_282000.out BK283.out (by decide)) (fun _ hk => hk.2) (.int .i64 ((rd_T36 l0 x35_1).f0))) (fun _ hk => hk.2) (.int .i64 ((rd_T36 l0 x35_1).f1))) (fun _ hk => hk.2) (.bool ((rd_T36 l0 x35_1).f2))) (fun _ hk => hk.2) (.int .i64 ((rd_T36 l0 x35_1).f3.f0))) (fun _ hk => hk.2) (.int .i64 ((rd_T36 l0 x35_1).f3.f1))) (fun _ hk => hk.2) (.int .i64 ((rd_T36 l0 x35_1).f3.f2))) (fun _ hk => hk.2) (.int .i64 ((rd_T36 l0 x35_1).f3.f3))) (fun _ hk => hk.2) (.int .i64 ((rd_T36 l0 x35_1).f3.f4))) (fun _ hk => hk.2) (.bool ((rd_T36 l0 x35_1).f3.f5))) (fun _ hk => hk.2) (.string ((rd_T36 l0 x35_1).f4))) (fun _ h_ => h_.1))) hb);have n1_:=Aside0.mk (Kd.R_below (by (with_reducible repeat (first|apply Kd.R_alloc|apply Kd.R_drewN|apply Kd.R_drew));exact (Kd.R_mono (Kd.R_far (p:=⟨gb283,9,none⟩) (Kd.R_far (p:=⟨gb283,8,none⟩) (Kd.R_far (p:=⟨gb283,7,none⟩) (Kd.R_far (p:=⟨gb283,6,none⟩) (Kd.R_far (p:=⟨gb283,5,none⟩) (Kd.R_far (p:=⟨gb283,4,none⟩) (Kd.R_far (p:=⟨gb283,3,none⟩) (Kd.R_far (p:=⟨gb283,2,none⟩) (Kd.R_far (p:=⟨gb283,1,none⟩) (Kd.R_far (p:=⟨gb283,0,none⟩) (Kd.R_types HO_282001.out BK283.out (by decide)) (fun _ hk => hk.2) (.int .i64 ((rd_T36 l0 x35_1).f0))) (fun _ hk => hk.2) (.int .i64 ((rd_T36 l0 x35_1).f1))) (fun _ hk => hk.2) (.bool ((rd_T36 l0 x35_1).f2))) (fun _ hk => hk.2) (.int .i64 ((rd_T36 l0 x35_1).f3.f0))) (fun _ hk => hk.2) (.int .i64 ((rd_T36 l0 x35_1).f3.f1))) (fun _ hk => hk.2) (.int .i64 ((rd_T36 l0 x35_1).f3.f2))) (fun _ hk => hk.2) (.int .i64 ((rd_T36 l0 x35_1).f3.f3))) (fun _ hk => hk.2) (.int .i64 ((rd_T36 l0 x35_1).f3.f4))) (fun _ hk => hk.2) (.bool ((rd_T36 l0 x35_1).f3.f5))) (fun _ hk => hk.2) (.string ((rd_T36 l0 x35_1).f4))) (fun _ h_ => h_.1))) hb);have n2_:=Aside0.mk (blk_below (g:=gb281) (o:=.cells #[.slice Ao15 t274.length co15,.slice Ao17 t277.length co17,.int .i64 t280] 28 (0,0)) (by (with_reducible repeat (first|refine blk_drewN ?_ _|refine blk_drew ?_|refine blk_alloc ?_ _));refine blk_far ?_ NB281_283.out _;(with_reducible repeat (first|refine blk_drewN ?_ _|refine blk_drew ?_|refine blk_alloc ?_ _));refine blk_far ?_ NB281_283.out _;(with_reducible repeat (first|refine blk_drewN ?_ _|refine blk_drew ?_|refine blk_alloc ?_ _));refine blk_far ?_ NB281_283.out _;(with_reducible repeat (first|refine blk_drewN ?_ _|refine blk_drew ?_|refine blk_alloc ?_ _));refine blk_far ?_ NB281_283.out _;(with_reducible repeat (first|refine blk_drewN ?_ _|refine blk_drew ?_|refine blk_alloc ?_ _));refine blk_far ?_ NB281_283.out _;(with_reducible repeat (first|refine blk_drewN ?_ _|refine blk_drew ?_|refine blk_alloc ?_ _));refine blk_far ?_ NB281_283.out _;(with_reducible repeat (first|refine blk_drewN ?_ _|refine blk_drew ?_|refine blk_alloc ?_ _));refine blk_far ?_ NB281_283.out _;(with_reducible repeat (first|refine blk_drewN ?_ _|refine blk_drew ?_|refine blk_alloc ?_ _));refine blk_far ?_ NB281_283.out _;(with_reducible repeat (first|refine blk_drewN ?_ _|refine blk_drew ?_|refine blk_alloc ?_ _));refine blk_far ?_ NB281_283.out _;(with_reducible repeat (first|refine blk_drewN ?_ _|refine blk_drew ?_|refine blk_alloc ?_ _));refine blk_far ?_ NB281_283.out _;(with_reducible repeat (first|refine blk_drewN ?_ _|refine blk_drew ?_|refine blk_alloc ?_ _));exact BK281.out) hb);have n3_:=Aside0.mk (blk_below (g:=gb283) (o:=.cells #[.int .i64 ((rd_T36 l0 x35_1).f0),.int .i64 ((rd_T36 l0 x35_1).f1),.bool ((rd_T36 l0 x35_1).f2),.int .i64 ((rd_T36 l0 x35_1).f3.f0),.int .i64 ((rd_T36 l0 x35_1).f3.f1),.int .i64 ((rd_T36 l0 x35_1).f3.f2),.int .i64 ((rd_T36 l0 x35_1).f3.f3),.int .i64 ((rd_T36 l0 x35_1).f3.f4),.bool ((rd_T36 l0 x35_1).f3.f5),.string ((rd_T36 l0 x35_1).f4)] 36 (0,0)) (by (with_reducible repeat (first|refine blk_drewN ?_ _|refine blk_drew ?_|refine blk_alloc ?_ _));refine blk_put (cs:=#[.int .i64 ((rd_T36 l0 x35_1).f0),.int .i64 ((rd_T36 l0 x35_1).f1),.bool ((rd_T36 l0 x35_1).f2),.int .i64 ((rd_T36 l0 x35_1).f3.f0),.int .i64 ((rd_T36 l0 x35_1).f3.f1),.int .i64 ((rd_T36 l0 x35_1).f3.f2),.int .i64 ((rd_T36 l0 x35_1).f3.f3),.int .i64 ((rd_T36 l0 x35_1).f3.f4),.bool ((rd_T36 l0 x35_1).f3.f5),.string (⟨#[]⟩ : ByteArray)]) ?_ 9 _ rfl;(with_reducible repeat (first|refine blk_drewN ?_ _|refine blk_drew ?_|refine blk_alloc ?_ _));refine blk_put (cs:=#[.int .i64 ((rd_T36 l0 x35_1).f0),.int .i64 ((rd_T36 l0 x35_1).f1),.bool ((rd_T36 l0 x35_1).f2),.int .i64 ((rd_T36 l0 x35_1).f3.f0),.int .i64 ((rd_T36 l0 x35_1).f3.f1),.int .i64 ((rd_T36 l0 x35_1).f3.f2),.int .i64 ((rd_T36 l0 x35_1).f3.f3),.int .i64 ((rd_T36 l0 x35_1).f3.f4),.bool false,.string (⟨#[]⟩ : ByteArray)]) ?_ 8 _ rfl;(with_reducible repeat (first|refine blk_drewN ?_ _|refine blk_drew ?_|refine blk_alloc ?_ _));refine blk_put (cs:=#[.int .i64 ((rd_T36 l0 x35_1).f0),.int .i64 ((rd_T36 l0 x35_1).f1),.bool ((rd_T36 l0 x35_1).f2),.int .i64 ((rd_T36 l0 x35_1).f3.f0),.int .i64 ((rd_T36 l0 x35_1).f3.f1),.int .i64 ((rd_T36 l0 x35_1).f3.f2),.int .i64 ((rd_T36 l0 x35_1).f3.f3),.int .i64 0,.bool false,.string (⟨#[]⟩ : ByteArray)]) ?_ 7 _ rfl;(with_reducible repeat (first|refine blk_drewN ?_ _|refine blk_drew ?_|refine blk_alloc ?_ _));refine blk_put (cs:=#[.int .i64 ((rd_T36 l0 x35_1).f0),.int .i64 ((rd_T36 l0 x35_1).f1),.bool ((rd_T36 l0 x35_1).f2),.int .i64 ((rd_T36 l0 x35_1).f3.f0),.int .i64 ((rd_T36 l0 x35_1).f3.f1),.int .i64 ((rd_T36 l0 x35_1).f3.f2),.int .i64 0,.int .i64 0,.bool false,.string (⟨#[]⟩ : ByteArray)]) ?_ 6 _ rfl;(with_reducible repeat (first|refine blk_drewN ?_ _|refine blk_drew ?_|refine blk_alloc ?_ _));refine blk_put (cs:=#[.int .i64 ((rd_T36 l0 x35_1).f0),.int .i64 ((rd_T36 l0 x35_1).f1),.bool ((rd_T36 l0 x35_1).f2),.int .i64 ((rd_T36 l0 x35_1).f3.f0),.int .i64 ((rd_T36 l0 x35_1).f3.f1),.int .i64 0,.int .i64 0,.int .i64 0,.bool false,.string (⟨#[]⟩ : ByteArray)]) ?_ 5 _ rfl;(with_reducible repeat (first|refine blk_drewN ?_ _|refine blk_drew ?_|refine blk_alloc ?_ _));refine blk_put (cs:=#[.int .i64 ((rd_T36 l0 x35_1).f0),.int .i64 ((rd_T36 l0 x35_1).f1),.bool ((rd_T36 l0 x35_1).f2),.int .i64 ((rd_T36 l0 x35_1).f3.f0),.int .i64 0,.int .i64 0,.int .i64 0,.int .i64 0,.bool false,.string (⟨#[]⟩ : ByteArray)]) ?_ 4 _ rfl;(with_reducible repeat (first|refine blk_drewN ?_ _|refine blk_drew ?_|refine blk_alloc ?_ _));refine blk_put (cs:=#[.int .i64 ((rd_T36 l0 x35_1).f0),.int .i64 ((rd_T36 l0 x35_1).f1),.bool ((rd_T36 l0 x35_1).f2),.int .i64 0,.int .i64 0,.int .i64 0,.int .i64 0,.int .i64 0,.bool false,.string (⟨#[]⟩ : ByteArray)]) ?_ 3 _ rfl;(with_reducible repeat (first|refine blk_drewN ?_ _|refine blk_drew ?_|refine blk_alloc ?_ _));refine blk_put (cs:=#[.int .i64 ((rd_T36 l0 x35_1).f0),.int .i64 ((rd_T36 l0 x35_1).f1),.bool false,.int .i64 0,.int .i64 0,.int .i64 0,.int .i64 0,.int .i64 0,.bool false,.string (⟨#[]⟩ : ByteArray)]) ?_ 2 _ rfl;(with_reducible repeat (first|refine blk_drewN ?_ _|refine blk_drew ?_|refine blk_alloc ?_ _));refine blk_put (cs:=#[.int .i64 ((rd_T36 l0 x35_1).f0),.int .i64 0,.bool false,.int .i64 0,.int .i64 0,.int .i64 0,.int .i64 0,.int .i64 0,.bool false,.string (⟨#[]⟩ : ByteArray)]) ?_ 1 _ rfl;(with_reducible repeat (first|refine blk_drewN ?_ _|refine blk_drew ?_|refine blk_alloc ?_ _));refine blk_put (cs:=#[.int .i64 0,.int .i64 0,.bool false,.int .i64 0,.int .i64 0,.int .i64 0,.int .i64 0,.int .i64 0,.bool false,.string (⟨#[]⟩ : ByteArray)]) ?_ 0 _ rfl;(with_reducible repeat (first|refine blk_drewN ?_ _|refine blk_drew ?_|refine blk_alloc ?_ _));exact BK283.out) hb);have n4_:=Aside0.mk (below_step (by repeat (first|(with_reducible first|exact HB.out|apply below_alloc|apply pw_below_drewN|apply below_drew1|refine below_set ?_ GE281.out|refine below_set ?_ GE283.out)|exact HB.out)) hb);clear HO_282000;clear HO_282001;clear BK281;clear BK283;clear HB;have HO_282000:=n0_;have HO_282001:=n1_;have BK281:=n2_;have BK283:=n3_;have HB:=n4_;clear n0_ n1_ n2_ n3_ n4_;(try clear hb);(try clear hb2);(try clear hk);(try clear hi)))
            go_meet
            case rel => exact ⟨_,(true),(by first|rfl|(simp;done)|(simp [*];done)),H',⟨by have:=HK1.out;first|omega|exact Nat.le_refl _⟩,⟨by (with_reducible repeat (first|apply Kd.R_alloc|apply Kd.R_drewN|apply Kd.R_drew));exact HO_282000.out⟩,⟨by (with_reducible repeat (first|apply Kd.R_alloc|apply Kd.R_drewN|apply Kd.R_drew));exact HO_282001.out⟩,⟨by (with_reducible repeat (first|refine blk_drewN ?_ _|refine blk_drew ?_|refine blk_alloc ?_ _));exact BK281.out⟩,⟨by (with_reducible repeat (first|refine blk_drewN ?_ _|refine blk_drew ?_|refine blk_alloc ?_ _));exact BK283.out⟩,⟨by repeat (first|(with_reducible first|exact HB.out|apply below_alloc|apply pw_below_drewN|apply below_drew1|refine below_set ?_ GE281.out|refine below_set ?_ GE283.out)|exact HB.out)⟩⟩
        case rest =>
         clear HC21
         try clear c1
         try clear c2
         try clear p2
         try clear q2
         try clear hx2
         try clear c3
         try clear c4
         try clear c6
         try clear c7
         try clear c8
         try clear c9
         try clear c18
         try clear c18b0
         try clear c19
         try clear c19b0
         try clear c20
         try clear c20b0
         try clear c23
         try clear c25
         try clear c25b0
         try clear c26
         try clear c28
         try clear c28b0
         try clear p28
         try clear q28
         try clear hx28
         try clear c29
         try clear c32
         try clear c33
         try clear c37
         try clear hcz16_0
         try clear hcz16_1
         try clear hcz16_2
         try clear hcz24_0
         try clear hcz24_1
         try clear hcz24_2
         try clear hcz24_3
         try clear hcz24_4
         try clear hcz24_5
         try clear hcz24_6
         try clear hcz24_7
         try clear hcz24_8
         try clear hcz24_9
         try clear hcz27_0
         try clear hcz27_1
         try clear hcz27_2
         try clear hcz27_3
         try clear hcz27_4
         try clear hcz27_5
         try clear hcz27_6
         try clear hcz27_7
         try clear hcz27_8
         try clear hcz27_9
         try clear hcz30_0
         try clear hcz30_1
         try clear hcz30_2
         try clear hcz30_3
         try clear hcz30_4
         try clear hcz30_5
         try clear hcz30_6
         try clear hcz30_7
         try clear hcz30_8
         try clear hcz30_9
         try clear hcz34_0
         try clear hcz34_1
         try clear hcz34_2
         try clear hcz34_3
         try clear hcz34_4
         try clear hcz34_5
         try clear hcz34_6
         try clear hcz34_7
         try clear hcz34_8
         try clear hcz34_9
         try clear hcz36_0
         try clear hcz36_1
         try clear hcz36_2
         try clear hcz36_3
         try clear hcz36_4
         try clear hcz36_5
         try clear hcz36_6
         try clear hcz36_7
         try clear hcz36_8
         try clear hcz36_9
         try clear hcz38_0
         try clear hcz38_1
         try clear hcz38_2
         try clear hcz38_3
         try clear hcz38_4
         try clear hcz38_5
         try clear hcz38_6
         try clear hcz38_7
         try clear hcz38_8
         try clear hcz38_9
         try clear hfz16_0
         try clear hfz16_1
         try clear hfz16_2
         try clear hfz24_0
         try clear hfz24_1
         try clear hfz24_2
         try clear hfz24_3
         try clear hfz24_4
         try clear hfz24_5
         try clear hfz24_6
         try clear hfz24_7
         try clear hfz24_8
         try clear hfz24_9
         try clear hfz27_0
         try clear hfz27_1
         try clear hfz27_2
         try clear hfz27_3
         try clear hfz27_4
         try clear hfz27_5
         try clear hfz27_6
         try clear hfz27_7
         try clear hfz27_8
         try clear hfz27_9
         try clear hfz30_0
         try clear hfz30_1
         try clear hfz30_2
         try clear hfz30_3
         try clear hfz30_4
         try clear hfz30_5
         try clear hfz30_6
         try clear hfz30_7
         try clear hfz30_8
         try clear hfz30_9
         try clear hfz34_0
         try clear hfz34_1
         try clear hfz34_2
         try clear hfz34_3
         try clear hfz34_4
         try clear hfz34_5
         try clear hfz34_6
         try clear hfz34_7
         try clear hfz34_8
         try clear hfz34_9
         try clear hfz36_0
         try clear hfz36_1
         try clear hfz36_2
         try clear hfz36_3
         try clear hfz36_4
         try clear hfz36_5
         try clear hfz36_6
         try clear hfz36_7
         try clear hfz36_8
         try clear hfz36_9
         try clear hfz38_0
         try clear hfz38_1
         try clear hfz38_2
         try clear hfz38_3
         try clear hfz38_4
         try clear hfz38_5
         try clear hfz38_6
         try clear hfz38_7
         try clear hfz38_8
         try clear hfz38_9
         try clear hx282_0
         try clear hx282_1
         try clear hx282_2
         try clear hx282_3
         try clear hx282_4
         try clear hx282_5
         try clear hx282_6
         try clear hx282_7
         try clear hx282_8
         try clear hx282_9
         try clear p2
         try clear p282
         try clear q282
         obtain ⟨kq, x61_20, rfl, HA, HJ20, HO_282000, HO_282001, BK281, BK283, HB⟩ := hcut
         cases kq with
         | zero => exact absurd HA.out (by simp [almshouselaw17_HealKeeps.j1])
         | succ kj20 =>
          have H := HA.out
          clear HA
          simp only [almshouselaw17_HealKeeps.j1] at H
          by_cases c40 : x61_20 = true
          ·subst c40
           have H1 : (almshouselaw17_HealKeeps.l0 kj20 l0 a1 a2 a3 a4 l0 (l0.length : Int) (wrap64 (x35_1 + 1)) t274 t277 t280) = some r:=by rw [if_pos rfl] at H;exact H
           clear H
           have H := H1
           clear H1
           have H' := Aside0.mk H
           clear H
           go_wp2
           go_roundg kj20
           case measure => have := HK1.out; have := HJ20.out; omega
           case rel => exact ⟨(wrap64 (x35_1 + 1)),(by first|rfl|(simp;done)|(simp [*];done)),H',⟨by have:=HK1.out;have:=HJ20.out;omega⟩,⟨by (with_reducible repeat (first|apply Kd.R_alloc|apply Kd.R_drewN|apply Kd.R_drew));exact HO_282000.out⟩,⟨by (with_reducible repeat (first|apply Kd.R_alloc|apply Kd.R_drewN|apply Kd.R_drew));exact HO_282001.out⟩,⟨by (with_reducible repeat (first|refine blk_drewN ?_ _|refine blk_drew ?_|refine blk_alloc ?_ _));exact BK281.out⟩,⟨by repeat (first|(with_reducible first|exact HB.out|apply below_alloc|apply pw_below_drewN|apply below_drew1|refine below_set ?_ GE281.out|refine below_set ?_ GE283.out)|exact HB.out)⟩⟩
          ·replace c40 := Bool.eq_false_iff.mpr c40
           subst c40
           have H1 : (almshouselaw17_HealKeeps.l1 kj20 l0 a1 a2 a3 a4 false l0 (l0.length : Int) x35_1 t274 (t274.length : Int) 0 t274 t277 t280 ((rd_T36 l0 x35_1).f0) ((rd_T36 l0 x35_1).f1) ((rd_T36 l0 x35_1).f2) ((rd_T36 l0 x35_1).f3.f0) ((rd_T36 l0 x35_1).f3.f1) ((rd_T36 l0 x35_1).f3.f2) ((rd_T36 l0 x35_1).f3.f3) ((rd_T36 l0 x35_1).f3.f4) ((rd_T36 l0 x35_1).f3.f5) ((rd_T36 l0 x35_1).f4)) = some r:=by rw [if_neg (show ¬ (false = true) by decide)] at H;exact H
           clear H
           have H := H1
           clear H1
           have H' := Aside0.mk H
           clear H
           have hnb41 := NB281_283.out
           have hnc41 := NB283_281.out
           have hcz42_0 : wc.cell? ⟨gb281,0,none⟩ = some (.slice Ao15 t274.length co15):=(blk_cell BK281.out 0).trans rfl
           have hcz42_1 : wc.cell? ⟨gb281,1,none⟩ = some (.slice Ao17 t277.length co17):=(blk_cell BK281.out 1).trans rfl
           have hcz42_2 : wc.cell? ⟨gb281,2,none⟩ = some (.int .i64 t280):=(blk_cell BK281.out 2).trans rfl
           have hfz42_0 := blk_frozen BK281.out 0
           have hfz42_1 := blk_frozen BK281.out 1
           have hfz42_2 := blk_frozen BK281.out 2
           go_wp2
           go_loopg [14,65] kj20 (fun kq v14 v65 w' => ∃ (x14_3 : Bool) (x65_3 : Int),v14 = .bool x14_3 ∧ v65 = .int .i64 x65_3 ∧ Aside0 (almshouselaw17_HealKeeps.l1 kq l0 a1 a2 a3 a4 x14_3 l0 (l0.length : Int) x35_1 t274 (t274.length : Int) x65_3 t274 t277 t280 ((rd_T36 l0 x35_1).f0) ((rd_T36 l0 x35_1).f1) ((rd_T36 l0 x35_1).f2) ((rd_T36 l0 x35_1).f3.f0) ((rd_T36 l0 x35_1).f3.f1) ((rd_T36 l0 x35_1).f3.f2) ((rd_T36 l0 x35_1).f3.f3) ((rd_T36 l0 x35_1).f3.f4) ((rd_T36 l0 x35_1).f3.f5) ((rd_T36 l0 x35_1).f4) = some r) ∧ Aside0 (kq ≤ kj20) ∧ Aside0 (Kd.R k40 40 w' w.heap.size (fun _ => True) (.slice Ao15 t274.length co15) t274) ∧ Aside0 (Kd.R k40 40 w' w.heap.size (fun _ => True) (.slice Ao15 t274.length co15) t274) ∧ Aside0 (Kd.R (Kd.int .i64) 3 w' w.heap.size (fun _ => True) (.slice Ao17 t277.length co17) t277) ∧ Aside0 (w'.heap[gb281]? = some (.cells #[(.slice Ao15 t274.length co15),(.slice Ao17 t277.length co17),.int .i64 t280] 28 (0,0))) ∧ Aside0 (w'.heap[gb283]? = some (.cells #[.int .i64 ((rd_T36 l0 x35_1).f0),.int .i64 ((rd_T36 l0 x35_1).f1),.bool ((rd_T36 l0 x35_1).f2),.int .i64 ((rd_T36 l0 x35_1).f3.f0),.int .i64 ((rd_T36 l0 x35_1).f3.f1),.int .i64 ((rd_T36 l0 x35_1).f3.f2),.int .i64 ((rd_T36 l0 x35_1).f3.f3),.int .i64 ((rd_T36 l0 x35_1).f3.f4),.bool ((rd_T36 l0 x35_1).f3.f5),.string ((rd_T36 l0 x35_1).f4)] 36 (0,0))) ∧ Aside0 (Below w.heap.size w w'))
           case atStart => exact ⟨(false),(0),(by first|rfl|(simp;done)|(simp [*];done)),(by first|rfl|(simp;done)|(simp [*];done)),H',⟨Nat.le_refl _⟩,⟨by (with_reducible repeat (first|apply Kd.R_alloc|apply Kd.R_drewN|apply Kd.R_drew));exact HO_282000.out⟩,⟨by (with_reducible repeat (first|apply Kd.R_alloc|apply Kd.R_drewN|apply Kd.R_drew));exact HO_282000.out⟩,⟨by (with_reducible repeat (first|apply Kd.R_alloc|apply Kd.R_drewN|apply Kd.R_drew));exact HO_282001.out⟩,⟨by (with_reducible repeat (first|refine blk_drewN ?_ _|refine blk_drew ?_|refine blk_alloc ?_ _));exact BK281.out⟩,⟨by (with_reducible repeat (first|refine blk_drewN ?_ _|refine blk_drew ?_|refine blk_alloc ?_ _));exact BK283.out⟩,⟨by repeat (first|(with_reducible first|exact HB.out|apply below_alloc|apply pw_below_drewN|apply below_drew1|refine below_set ?_ GE281.out|refine below_set ?_ GE283.out)|exact HB.out)⟩⟩
           case round =>
            clear H'
            try clear c1
            try clear c2
            try clear p2
            try clear q2
            try clear hx2
            try clear c3
            try clear c4
            try clear c6
            try clear p6
            try clear c7
            try clear c8
            try clear c9
            try clear c18
            try clear c18b0
            try clear c19
            try clear c19b0
            try clear c20
            try clear c20b0
            try clear c23
            try clear c25
            try clear c25b0
            try clear c26
            try clear c28
            try clear c28b0
            try clear p28
            try clear q28
            try clear hx28
            try clear c29
            try clear c32
            try clear c33
            try clear c37
            try clear c40
            try clear c41
            try clear hcz16_0
            try clear hcz16_1
            try clear hcz16_2
            try clear hcz24_0
            try clear hcz24_1
            try clear hcz24_2
            try clear hcz24_3
            try clear hcz24_4
            try clear hcz24_5
            try clear hcz24_6
            try clear hcz24_7
            try clear hcz24_8
            try clear hcz24_9
            try clear hcz27_0
            try clear hcz27_1
            try clear hcz27_2
            try clear hcz27_3
            try clear hcz27_4
            try clear hcz27_5
            try clear hcz27_6
            try clear hcz27_7
            try clear hcz27_8
            try clear hcz27_9
            try clear hcz30_0
            try clear hcz30_1
            try clear hcz30_2
            try clear hcz30_3
            try clear hcz30_4
            try clear hcz30_5
            try clear hcz30_6
            try clear hcz30_7
            try clear hcz30_8
            try clear hcz30_9
            try clear hcz34_0
            try clear hcz34_1
            try clear hcz34_2
            try clear hcz34_3
            try clear hcz34_4
            try clear hcz34_5
            try clear hcz34_6
            try clear hcz34_7
            try clear hcz34_8
            try clear hcz34_9
            try clear hcz36_0
            try clear hcz36_1
            try clear hcz36_2
            try clear hcz36_3
            try clear hcz36_4
            try clear hcz36_5
            try clear hcz36_6
            try clear hcz36_7
            try clear hcz36_8
            try clear hcz36_9
            try clear hcz38_0
            try clear hcz38_1
            try clear hcz38_2
            try clear hcz38_3
            try clear hcz38_4
            try clear hcz38_5
            try clear hcz38_6
            try clear hcz38_7
            try clear hcz38_8
            try clear hcz38_9
            try clear hcz42_0
            try clear hcz42_1
            try clear hcz42_2
            try clear hfz16_0
            try clear hfz16_1
            try clear hfz16_2
            try clear hfz24_0
            try clear hfz24_1
            try clear hfz24_2
            try clear hfz24_3
            try clear hfz24_4
            try clear hfz24_5
            try clear hfz24_6
            try clear hfz24_7
            try clear hfz24_8
            try clear hfz24_9
            try clear hfz27_0
            try clear hfz27_1
            try clear hfz27_2
            try clear hfz27_3
            try clear hfz27_4
            try clear hfz27_5
            try clear hfz27_6
            try clear hfz27_7
            try clear hfz27_8
            try clear hfz27_9
            try clear hfz30_0
            try clear hfz30_1
            try clear hfz30_2
            try clear hfz30_3
            try clear hfz30_4
            try clear hfz30_5
            try clear hfz30_6
            try clear hfz30_7
            try clear hfz30_8
            try clear hfz30_9
            try clear hfz34_0
            try clear hfz34_1
            try clear hfz34_2
            try clear hfz34_3
            try clear hfz34_4
            try clear hfz34_5
            try clear hfz34_6
            try clear hfz34_7
            try clear hfz34_8
            try clear hfz34_9
            try clear hfz36_0
            try clear hfz36_1
            try clear hfz36_2
            try clear hfz36_3
            try clear hfz36_4
            try clear hfz36_5
            try clear hfz36_6
            try clear hfz36_7
            try clear hfz36_8
            try clear hfz36_9
            try clear hfz38_0
            try clear hfz38_1
            try clear hfz38_2
            try clear hfz38_3
            try clear hfz38_4
            try clear hfz38_5
            try clear hfz38_6
            try clear hfz38_7
            try clear hfz38_8
            try clear hfz38_9
            try clear hfz42_0
            try clear hfz42_1
            try clear hfz42_2
            try clear hx282_0
            try clear hx282_1
            try clear hx282_2
            try clear hx282_3
            try clear hx282_4
            try clear hx282_5
            try clear hx282_6
            try clear hx282_7
            try clear hx282_8
            try clear hx282_9
            try clear p2
            try clear p28
            try clear p282
            try clear q2
            try clear q28
            try clear q282
            obtain ⟨x14_3,x65_3,rfl,rfl,HA,HK3,HO_63,HO_282000,HO_282001,BK281,BK283,HB⟩:=hrel
            cases gk with
            | zero => exact absurd HA.out (by simp [almshouselaw17_HealKeeps.l1])
            | succ k3 =>
             have H := HA.out
             clear HA
             simp only [almshouselaw17_HealKeeps.l1] at H
             by_cases c43 : x65_3 < (t274.length : Int)
             ·rw [if_pos c43] at H
              have c43b0 : decide (x65_3 < (t274.length : Int)) = true := decide_eq_true c43
              clear c43
              by_cases c44 : 0 ≤ x65_3
              ·rw [if_pos c44] at H
               have c44b0 : decide (0 ≤ x65_3) = true := decide_eq_true c44
               clear c44
               by_cases c45 : x65_3 < (t274.length : Int)
               ·rw [if_pos c45] at H
                have c45b0 : decide (x65_3 < (t274.length : Int)) = true := decide_eq_true c45
                clear c45
                by_cases c46 : ((rd_T40 t274 x65_3).f0) = ((rd_T36 l0 x35_1).f3.f2)
                ·rw [if_pos c46] at H
                 have c46b0 : (((rd_T40 t274 x65_3).f0) == ((rd_T36 l0 x35_1).f3.f2)) = true:=beq_iff_eq.mpr c46
                 have c46b1 : (((rd_T40 t274 x65_3).f0) != ((rd_T36 l0 x35_1).f3.f2)) = false:=bne_eq_false_iff_eq.mpr c46
                 clear c46
                 have H' := Aside0.mk H
                 clear H
                 have p285 : 0 ≤ (x65_3 : Int):=of_decide_eq_true (by first|(with_reducible assumption)|assumption)
                 have q285 : x65_3 < (t274.length : Int):=of_decide_eq_true (by first|(with_reducible assumption)|assumption)
                 obtain ⟨ad285,e285,hx285_0,hx285_1,hx285_2⟩:=at_T40 (Kd.R_reads' HO_63.out).2.2 x65_3 p285 q285
                 cases e285
                 replace p285 := eq_true p285
                 replace q285 := eq_true q285
                 go_wp2_with (first|((with_reducible refine gate_dst (N:=16) rfl ?_);refine box_event ?hg (N:=16) ?hd (cs:=#[.int .i64 0,.int .i64 0,.int .i64 0]) (t:=40) ?hr ?_;(case hd => rfl);(case hg => rfl);(case hr => first|(go_simp;done)|(go_simp;rfl));intro gb286 hg w47 hbox hb;have n0_:=Aside0.mk (Kd.R_below (Kd.R_elderB (by (with_reducible repeat (first|apply Kd.R_alloc|apply Kd.R_drewN|apply Kd.R_drew));exact HO_63.out) gb286 (Nat.le_of_eq hg.symm)) hb);have n1_:=Aside0.mk (Kd.R_below (Kd.R_elderB (by (with_reducible repeat (first|apply Kd.R_alloc|apply Kd.R_drewN|apply Kd.R_drew));exact HO_282000.out) gb286 (Nat.le_of_eq hg.symm)) hb);have n2_:=Aside0.mk (Kd.R_below (by (with_reducible repeat (first|apply Kd.R_alloc|apply Kd.R_drewN|apply Kd.R_drew));exact HO_282001.out) hb);have n3_:=Aside0.mk (blk_below (g:=gb281) (o:=.cells #[.slice (some ad285) t274.length co15,.slice Ao17 t277.length co17,.int .i64 t280] 28 (0,0)) (by (with_reducible repeat (first|refine blk_drewN ?_ _|refine blk_drew ?_|refine blk_alloc ?_ _));exact BK281.out) hb);have n4_:=Aside0.mk (blk_below (g:=gb283) (o:=.cells #[.int .i64 ((rd_T36 l0 x35_1).f0),.int .i64 ((rd_T36 l0 x35_1).f1),.bool ((rd_T36 l0 x35_1).f2),.int .i64 ((rd_T36 l0 x35_1).f3.f0),.int .i64 ((rd_T36 l0 x35_1).f3.f1),.int .i64 ((rd_T36 l0 x35_1).f3.f2),.int .i64 ((rd_T36 l0 x35_1).f3.f3),.int .i64 ((rd_T36 l0 x35_1).f3.f4),.bool ((rd_T36 l0 x35_1).f3.f5),.string ((rd_T36 l0 x35_1).f4)] 36 (0,0)) (by (with_reducible repeat (first|refine blk_drewN ?_ _|refine blk_drew ?_|refine blk_alloc ?_ _));exact BK283.out) hb);have n5_:=Aside0.mk (below_step (by repeat (first|(with_reducible first|exact HB.out|apply below_alloc|apply pw_below_drewN|apply below_drew1|refine below_set ?_ GE281.out|refine below_set ?_ GE283.out)|exact HB.out)) hb);have n6_:=Aside0.mk (hbox);have n7_:=Aside0.mk ((by rw [hg];exact (below_size (by repeat (first|(with_reducible first|exact HB.out|apply below_alloc|apply pw_below_drewN|apply below_drew1|refine below_set ?_ GE281.out|refine below_set ?_ GE283.out)|exact HB.out))) : w.heap.size ≤ gb286));have n8_:=Aside0.mk ((by rw [hg];exact (below_size (by repeat (first|(with_reducible first|exact HB.out|apply below_alloc|apply pw_below_drewN|apply below_drew1|refine below_set ?_ GE281.out|refine below_set ?_ GE283.out)|exact HB.out))) : w.heap.size ≤ gb286));have n9_:=Aside0.mk ((by rw [hg];exact Nat.ne_of_lt (blk_lt (g:=gb281) (o:=.cells #[.slice (some ad285) t274.length co15,.slice Ao17 t277.length co17,.int .i64 t280] 28 (0,0)) (by (with_reducible repeat (first|refine blk_drewN ?_ _|refine blk_drew ?_|refine blk_alloc ?_ _));exact BK281.out)) : gb281 ≠ gb286));have n10_:=Aside0.mk ((by rw [hg];exact Nat.ne_of_gt (blk_lt (g:=gb281) (o:=.cells #[.slice (some ad285) t274.length co15,.slice Ao17 t277.length co17,.int .i64 t280] 28 (0,0)) (by (with_reducible repeat (first|refine blk_drewN ?_ _|refine blk_drew ?_|refine blk_alloc ?_ _));exact BK281.out)) : gb286 ≠ gb281));have n11_:=Aside0.mk ((by rw [hg];exact Nat.ne_of_lt (blk_lt (g:=gb283) (o:=.cells #[.int .i64 ((rd_T36 l0 x35_1).f0),.int .i64 ((rd_T36 l0 x35_1).f1),.bool ((rd_T36 l0 x35_1).f2),.int .i64 ((rd_T36 l0 x35_1).f3.f0),.int .i64 ((rd_T36 l0 x35_1).f3.f1),.int .i64 ((rd_T36 l0 x35_1).f3.f2),.int .i64 ((rd_T36 l0 x35_1).f3.f3),.int .i64 ((rd_T36 l0 x35_1).f3.f4),.bool ((rd_T36 l0 x35_1).f3.f5),.string ((rd_T36 l0 x35_1).f4)] 36 (0,0)) (by (with_reducible repeat (first|refine blk_drewN ?_ _|refine blk_drew ?_|refine blk_alloc ?_ _));exact BK283.out)) : gb283 ≠ gb286));have n12_:=Aside0.mk ((by rw [hg];exact Nat.ne_of_gt (blk_lt (g:=gb283) (o:=.cells #[.int .i64 ((rd_T36 l0 x35_1).f0),.int .i64 ((rd_T36 l0 x35_1).f1),.bool ((rd_T36 l0 x35_1).f2),.int .i64 ((rd_T36 l0 x35_1).f3.f0),.int .i64 ((rd_T36 l0 x35_1).f3.f1),.int .i64 ((rd_T36 l0 x35_1).f3.f2),.int .i64 ((rd_T36 l0 x35_1).f3.f3),.int .i64 ((rd_T36 l0 x35_1).f3.f4),.bool ((rd_T36 l0 x35_1).f3.f5),.string ((rd_T36 l0 x35_1).f4)] 36 (0,0)) (by (with_reducible repeat (first|refine blk_drewN ?_ _|refine blk_drew ?_|refine blk_alloc ?_ _));exact BK283.out)) : gb286 ≠ gb283));clear HO_63;clear HO_282000;clear HO_282001;clear BK281;clear BK283;clear HB;have HO_63:=n0_;have HO_282000:=n1_;have HO_282001:=n2_;have BK281:=n3_;have BK283:=n4_;have HB:=n5_;have BK286:=n6_;have GW286:=n7_;have GE286:=n8_;have NB281_286:=n9_;have NB286_281:=n10_;have NB283_286:=n11_;have NB286_283:=n12_;clear n0_ n1_ n2_ n3_ n4_ n5_ n6_ n7_ n8_ n9_ n10_ n11_ n12_;clear hb hbox hg;have hnb48:=NB286_281.out;have hnc48:=NB281_286.out;have hnb49:=NB286_283.out;have hnc49:=NB283_286.out;have hcz50_0 : w47.cell? ⟨gb286,0,none⟩ = some (.int .i64 0):=(blk_cell BK286.out 0).trans rfl;have hcz50_1 : w47.cell? ⟨gb286,1,none⟩ = some (.int .i64 0):=(blk_cell BK286.out 1).trans rfl;have hcz50_2 : w47.cell? ⟨gb286,2,none⟩ = some (.int .i64 0):=(blk_cell BK286.out 2).trans rfl;have hfz50_0:=blk_frozen BK286.out 0;have hfz50_1:=blk_frozen BK286.out 1;have hfz50_2:=blk_frozen BK286.out 2;have hnb51:=NB283_281.out;have hnc51:=NB281_283.out;have hcz52_0 : w47.cell? ⟨gb283,0,none⟩ = some (.int .i64 ((rd_T36 l0 x35_1).f0)):=(blk_cell BK283.out 0).trans rfl;have hcz52_1 : w47.cell? ⟨gb283,1,none⟩ = some (.int .i64 ((rd_T36 l0 x35_1).f1)):=(blk_cell BK283.out 1).trans rfl;have hcz52_2 : w47.cell? ⟨gb283,2,none⟩ = some (.bool ((rd_T36 l0 x35_1).f2)):=(blk_cell BK283.out 2).trans rfl;have hcz52_3 : w47.cell? ⟨gb283,3,none⟩ = some (.int .i64 ((rd_T36 l0 x35_1).f3.f0)):=(blk_cell BK283.out 3).trans rfl;have hcz52_4 : w47.cell? ⟨gb283,4,none⟩ = some (.int .i64 ((rd_T36 l0 x35_1).f3.f1)):=(blk_cell BK283.out 4).trans rfl;have hcz52_5 : w47.cell? ⟨gb283,5,none⟩ = some (.int .i64 ((rd_T36 l0 x35_1).f3.f2)):=(blk_cell BK283.out 5).trans rfl;have hcz52_6 : w47.cell? ⟨gb283,6,none⟩ = some (.int .i64 ((rd_T36 l0 x35_1).f3.f3)):=(blk_cell BK283.out 6).trans rfl;have hcz52_7 : w47.cell? ⟨gb283,7,none⟩ = some (.int .i64 ((rd_T36 l0 x35_1).f3.f4)):=(blk_cell BK283.out 7).trans rfl;have hcz52_8 : w47.cell? ⟨gb283,8,none⟩ = some (.bool ((rd_T36 l0 x35_1).f3.f5)):=(blk_cell BK283.out 8).trans rfl;have hcz52_9 : w47.cell? ⟨gb283,9,none⟩ = some (.string ((rd_T36 l0 x35_1).f4)):=(blk_cell BK283.out 9).trans rfl;have hfz52_0:=blk_frozen BK283.out 0;have hfz52_1:=blk_frozen BK283.out 1;have hfz52_2:=blk_frozen BK283.out 2;have hfz52_3:=blk_frozen BK283.out 3;have hfz52_4:=blk_frozen BK283.out 4;have hfz52_5:=blk_frozen BK283.out 5;have hfz52_6:=blk_frozen BK283.out 6;have hfz52_7:=blk_frozen BK283.out 7;have hfz52_8:=blk_frozen BK283.out 8;have hfz52_9:=blk_frozen BK283.out 9))
                 go_loopg [14,77] k3 (fun kq v14 v77 w' => ∃ (x14_4 : Bool) (x77_4 : Int),v14 = .bool x14_4 ∧ v77 = .int .i64 x77_4 ∧ Aside0 (almshouselaw17_HealKeeps.l2 kq l0 a1 a2 a3 a4 x14_4 l0 (l0.length : Int) x35_1 t274 (t274.length : Int) x65_3 l0 (l0.length : Int) x77_4 t274 t277 t280 ((rd_T36 l0 x35_1).f0) ((rd_T36 l0 x35_1).f1) ((rd_T36 l0 x35_1).f2) ((rd_T36 l0 x35_1).f3.f0) ((rd_T36 l0 x35_1).f3.f1) ((rd_T36 l0 x35_1).f3.f2) ((rd_T36 l0 x35_1).f3.f3) ((rd_T36 l0 x35_1).f3.f4) ((rd_T36 l0 x35_1).f3.f5) ((rd_T36 l0 x35_1).f4) ((rd_T40 t274 x65_3).f0) ((rd_T40 t274 x65_3).f1) ((rd_T40 t274 x65_3).f2) = some r) ∧ Aside0 (kq ≤ k3) ∧ Aside0 (Kd.R k40 40 w' w.heap.size (fun k_ => k_ ≠ gb286) (.slice (some ad285) t274.length co15) t274) ∧ Aside0 (Kd.R k40 40 w' w.heap.size (fun k_ => k_ ≠ gb286) (.slice (some ad285) t274.length co15) t274) ∧ Aside0 (Kd.R (Kd.int .i64) 3 w' w.heap.size (fun _ => True) (.slice Ao17 t277.length co17) t277) ∧ Aside0 (w'.heap[gb281]? = some (.cells #[(.slice (some ad285) t274.length co15),(.slice Ao17 t277.length co17),.int .i64 t280] 28 (0,0))) ∧ Aside0 (w'.heap[gb283]? = some (.cells #[.int .i64 ((rd_T36 l0 x35_1).f0),.int .i64 ((rd_T36 l0 x35_1).f1),.bool ((rd_T36 l0 x35_1).f2),.int .i64 ((rd_T36 l0 x35_1).f3.f0),.int .i64 ((rd_T36 l0 x35_1).f3.f1),.int .i64 ((rd_T36 l0 x35_1).f3.f2),.int .i64 ((rd_T36 l0 x35_1).f3.f3),.int .i64 ((rd_T36 l0 x35_1).f3.f4),.bool ((rd_T36 l0 x35_1).f3.f5),.string ((rd_T36 l0 x35_1).f4)] 36 (0,0))) ∧ Aside0 (w'.heap[gb286]? = some (.cells #[.int .i64 ((rd_T40 t274 x65_3).f0),.int .i64 ((rd_T40 t274 x65_3).f1),.int .i64 ((rd_T40 t274 x65_3).f2)] 40 (0,0))) ∧ Aside0 (Below w.heap.size w w'))
                 case atStart => exact ⟨(x14_3),(0),(by first|rfl|(simp;done)|(simp [*];done)),(by first|rfl|(simp;done)|(simp [*];done)),H',⟨Nat.le_refl _⟩,⟨by (with_reducible repeat (first|apply Kd.R_alloc|apply Kd.R_drewN|apply Kd.R_drew));exact Kd.R_mono (Kd.R_far (p:=⟨gb286,2,none⟩) (Kd.R_far (p:=⟨gb286,1,none⟩) (Kd.R_far (p:=⟨gb286,0,none⟩) (Kd.R_mono HO_63.out (fun k_ hk => (⟨hk,hk.2⟩:_ ∧ k_ ≠ gb286))) (fun _ hk => hk.2) (.int .i64 ((rd_T40 t274 x65_3).f0))) (fun _ hk => hk.2) (.int .i64 ((rd_T40 t274 x65_3).f1))) (fun _ hk => hk.2) (.int .i64 ((rd_T40 t274 x65_3).f2))) (fun _ hk => hk.1.2)⟩,⟨by (with_reducible repeat (first|apply Kd.R_alloc|apply Kd.R_drewN|apply Kd.R_drew));exact Kd.R_mono (Kd.R_far (p:=⟨gb286,2,none⟩) (Kd.R_far (p:=⟨gb286,1,none⟩) (Kd.R_far (p:=⟨gb286,0,none⟩) (Kd.R_mono HO_282000.out (fun k_ hk => (⟨hk,hk.2⟩:_ ∧ k_ ≠ gb286))) (fun _ hk => hk.2) (.int .i64 ((rd_T40 t274 x65_3).f0))) (fun _ hk => hk.2) (.int .i64 ((rd_T40 t274 x65_3).f1))) (fun _ hk => hk.2) (.int .i64 ((rd_T40 t274 x65_3).f2))) (fun _ hk => hk.1.2)⟩,⟨by (with_reducible repeat (first|apply Kd.R_alloc|apply Kd.R_drewN|apply Kd.R_drew));exact Kd.R_mono (Kd.R_far (p:=⟨gb286,2,none⟩) (Kd.R_far (p:=⟨gb286,1,none⟩) (Kd.R_far (p:=⟨gb286,0,none⟩) (Kd.R_types HO_282001.out BK286.out (by decide)) (fun _ hk => hk.2) (.int .i64 ((rd_T40 t274 x65_3).f0))) (fun _ hk => hk.2) (.int .i64 ((rd_T40 t274 x65_3).f1))) (fun _ hk => hk.2) (.int .i64 ((rd_T40 t274 x65_3).f2))) (fun _ hk => trivial)⟩,⟨by (with_reducible repeat (first|refine blk_drewN ?_ _|refine blk_drew ?_|refine blk_alloc ?_ _));refine blk_far ?_ NB281_286.out _;(with_reducible repeat (first|refine blk_drewN ?_ _|refine blk_drew ?_|refine blk_alloc ?_ _));refine blk_far ?_ NB281_286.out _;(with_reducible repeat (first|refine blk_drewN ?_ _|refine blk_drew ?_|refine blk_alloc ?_ _));refine blk_far ?_ NB281_286.out _;(with_reducible repeat (first|refine blk_drewN ?_ _|refine blk_drew ?_|refine blk_alloc ?_ _));exact BK281.out⟩,⟨by (with_reducible repeat (first|refine blk_drewN ?_ _|refine blk_drew ?_|refine blk_alloc ?_ _));refine blk_far ?_ NB283_286.out _;(with_reducible repeat (first|refine blk_drewN ?_ _|refine blk_drew ?_|refine blk_alloc ?_ _));refine blk_far ?_ NB283_286.out _;(with_reducible repeat (first|refine blk_drewN ?_ _|refine blk_drew ?_|refine blk_alloc ?_ _));refine blk_far ?_ NB283_286.out _;(with_reducible repeat (first|refine blk_drewN ?_ _|refine blk_drew ?_|refine blk_alloc ?_ _));exact BK283.out⟩,⟨by (with_reducible repeat (first|refine blk_drewN ?_ _|refine blk_drew ?_|refine blk_alloc ?_ _));refine blk_put (cs:=#[.int .i64 ((rd_T40 t274 x65_3).f0),.int .i64 ((rd_T40 t274 x65_3).f1),.int .i64 0]) ?_ 2 _ rfl;(with_reducible repeat (first|refine blk_drewN ?_ _|refine blk_drew ?_|refine blk_alloc ?_ _));refine blk_put (cs:=#[.int .i64 ((rd_T40 t274 x65_3).f0),.int .i64 0,.int .i64 0]) ?_ 1 _ rfl;(with_reducible repeat (first|refine blk_drewN ?_ _|refine blk_drew ?_|refine blk_alloc ?_ _));refine blk_put (cs:=#[.int .i64 0,.int .i64 0,.int .i64 0]) ?_ 0 _ rfl;(with_reducible repeat (first|refine blk_drewN ?_ _|refine blk_drew ?_|refine blk_alloc ?_ _));exact BK286.out⟩,⟨by repeat (first|(with_reducible first|exact HB.out|apply below_alloc|apply pw_below_drewN|apply below_drew1|refine below_set ?_ GE281.out|refine below_set ?_ GE283.out|refine below_set ?_ GE286.out)|exact HB.out)⟩⟩
                 case round =>
                  clear H'
                  try clear c1
                  try clear c2
                  try clear p2
                  try clear q2
                  try clear hx2
                  try clear c3
                  try clear c4
                  try clear c5
                  try clear c6
                  try clear p6
                  try clear c7
                  try clear c8
                  try clear c9
                  try clear c18
                  try clear c18b0
                  try clear c19
                  try clear c19b0
                  try clear c20
                  try clear c20b0
                  try clear c23
                  try clear c25
                  try clear c25b0
                  try clear c26
                  try clear c28
                  try clear c28b0
                  try clear p28
                  try clear q28
                  try clear hx28
                  try clear c29
                  try clear c32
                  try clear c33
                  try clear c37
                  try clear c40
                  try clear c41
                  try clear c43
                  try clear c43b0
                  try clear c44
                  try clear c44b0
                  try clear c45
                  try clear c45b0
                  try clear c46
                  try clear c46b0
                  try clear c46b1
                  try clear c48
                  try clear c49
                  try clear c51
                  try clear hcz16_0
                  try clear hcz16_1
                  try clear hcz16_2
                  try clear hcz24_0
                  try clear hcz24_1
                  try clear hcz24_2
                  try clear hcz24_3
                  try clear hcz24_4
                  try clear hcz24_5
                  try clear hcz24_6
                  try clear hcz24_7
                  try clear hcz24_8
                  try clear hcz24_9
                  try clear hcz27_0
                  try clear hcz27_1
                  try clear hcz27_2
                  try clear hcz27_3
                  try clear hcz27_4
                  try clear hcz27_5
                  try clear hcz27_6
                  try clear hcz27_7
                  try clear hcz27_8
                  try clear hcz27_9
                  try clear hcz30_0
                  try clear hcz30_1
                  try clear hcz30_2
                  try clear hcz30_3
                  try clear hcz30_4
                  try clear hcz30_5
                  try clear hcz30_6
                  try clear hcz30_7
                  try clear hcz30_8
                  try clear hcz30_9
                  try clear hcz34_0
                  try clear hcz34_1
                  try clear hcz34_2
                  try clear hcz34_3
                  try clear hcz34_4
                  try clear hcz34_5
                  try clear hcz34_6
                  try clear hcz34_7
                  try clear hcz34_8
                  try clear hcz34_9
                  try clear hcz36_0
                  try clear hcz36_1
                  try clear hcz36_2
                  try clear hcz36_3
                  try clear hcz36_4
                  try clear hcz36_5
                  try clear hcz36_6
                  try clear hcz36_7
                  try clear hcz36_8
                  try clear hcz36_9
                  try clear hcz38_0
                  try clear hcz38_1
                  try clear hcz38_2
                  try clear hcz38_3
                  try clear hcz38_4
                  try clear hcz38_5
                  try clear hcz38_6
                  try clear hcz38_7
                  try clear hcz38_8
                  try clear hcz38_9
                  try clear hcz42_0
                  try clear hcz42_1
                  try clear hcz42_2
                  try clear hcz50_0
                  try clear hcz50_1
                  try clear hcz50_2
                  try clear hcz52_0
                  try clear hcz52_1
                  try clear hcz52_2
                  try clear hcz52_3
                  try clear hcz52_4
                  try clear hcz52_5
                  try clear hcz52_6
                  try clear hcz52_7
                  try clear hcz52_8
                  try clear hcz52_9
                  try clear hfz16_0
                  try clear hfz16_1
                  try clear hfz16_2
                  try clear hfz24_0
                  try clear hfz24_1
                  try clear hfz24_2
                  try clear hfz24_3
                  try clear hfz24_4
                  try clear hfz24_5
                  try clear hfz24_6
                  try clear hfz24_7
                  try clear hfz24_8
                  try clear hfz24_9
                  try clear hfz27_0
                  try clear hfz27_1
                  try clear hfz27_2
                  try clear hfz27_3
                  try clear hfz27_4
                  try clear hfz27_5
                  try clear hfz27_6
                  try clear hfz27_7
                  try clear hfz27_8
                  try clear hfz27_9
                  try clear hfz30_0
                  try clear hfz30_1
                  try clear hfz30_2
                  try clear hfz30_3
                  try clear hfz30_4
                  try clear hfz30_5
                  try clear hfz30_6
                  try clear hfz30_7
                  try clear hfz30_8
                  try clear hfz30_9
                  try clear hfz34_0
                  try clear hfz34_1
                  try clear hfz34_2
                  try clear hfz34_3
                  try clear hfz34_4
                  try clear hfz34_5
                  try clear hfz34_6
                  try clear hfz34_7
                  try clear hfz34_8
                  try clear hfz34_9
                  try clear hfz36_0
                  try clear hfz36_1
                  try clear hfz36_2
                  try clear hfz36_3
                  try clear hfz36_4
                  try clear hfz36_5
                  try clear hfz36_6
                  try clear hfz36_7
                  try clear hfz36_8
                  try clear hfz36_9
                  try clear hfz38_0
                  try clear hfz38_1
                  try clear hfz38_2
                  try clear hfz38_3
                  try clear hfz38_4
                  try clear hfz38_5
                  try clear hfz38_6
                  try clear hfz38_7
                  try clear hfz38_8
                  try clear hfz38_9
                  try clear hfz42_0
                  try clear hfz42_1
                  try clear hfz42_2
                  try clear hfz50_0
                  try clear hfz50_1
                  try clear hfz50_2
                  try clear hfz52_0
                  try clear hfz52_1
                  try clear hfz52_2
                  try clear hfz52_3
                  try clear hfz52_4
                  try clear hfz52_5
                  try clear hfz52_6
                  try clear hfz52_7
                  try clear hfz52_8
                  try clear hfz52_9
                  try clear hx282_0
                  try clear hx282_1
                  try clear hx282_2
                  try clear hx282_3
                  try clear hx282_4
                  try clear hx282_5
                  try clear hx282_6
                  try clear hx282_7
                  try clear hx282_8
                  try clear hx282_9
                  try clear hx285_0
                  try clear hx285_1
                  try clear hx285_2
                  try clear p2
                  try clear p28
                  try clear p282
                  try clear p285
                  try clear p6
                  try clear q2
                  try clear q28
                  try clear q282
                  try clear q285
                  obtain ⟨x14_4,x77_4,rfl,rfl,HA,HK4,HO_63,HO_282000,HO_282001,BK281,BK283,BK286,HB⟩:=hrel
                  cases gk with
                  | zero => exact absurd HA.out (by simp [almshouselaw17_HealKeeps.l2])
                  | succ k4 =>
                   have H := HA.out
                   clear HA
                   simp only [almshouselaw17_HealKeeps.l2] at H
                   by_cases c53 : x77_4 < (l0.length : Int)
                   ·rw [if_pos c53] at H
                    have c53b0 : decide (x77_4 < (l0.length : Int)) = true := decide_eq_true c53
                    clear c53
                    by_cases c54 : 0 ≤ x77_4
                    ·rw [if_pos c54] at H
                     have c54b0 : decide (0 ≤ x77_4) = true := decide_eq_true c54
                     clear c54
                     by_cases c55 : x77_4 < (l0.length : Int)
                     ·rw [if_pos c55] at H
                      have c55b0 : decide (x77_4 < (l0.length : Int)) = true := decide_eq_true c55
                      clear c55
                      by_cases c56 : x14_4 = true
                      ·subst c56
                       have H1 : (almshouselaw17_HealKeeps.l2 k4 l0 a1 a2 a3 a4 true l0 (l0.length : Int) x35_1 t274 (t274.length : Int) x65_3 l0 (l0.length : Int) (wrap64 (x77_4 + 1)) t274 t277 t280 ((rd_T36 l0 x35_1).f0) ((rd_T36 l0 x35_1).f1) ((rd_T36 l0 x35_1).f2) ((rd_T36 l0 x35_1).f3.f0) ((rd_T36 l0 x35_1).f3.f1) ((rd_T36 l0 x35_1).f3.f2) ((rd_T36 l0 x35_1).f3.f3) ((rd_T36 l0 x35_1).f3.f4) ((rd_T36 l0 x35_1).f3.f5) ((rd_T36 l0 x35_1).f4) ((rd_T40 t274 x65_3).f0) ((rd_T40 t274 x65_3).f1) ((rd_T40 t274 x65_3).f2)) = some r:=by rw [if_pos rfl] at H;exact H
                       clear H
                       have H := H1
                       clear H1
                       have H' := Aside0.mk H
                       clear H
                       have p287 : 0 ≤ (x77_4 : Int):=of_decide_eq_true (by first|(with_reducible assumption)|assumption)
                       have q287 : x77_4 < (l0.length : Int):=of_decide_eq_true (by first|(with_reducible assumption)|assumption)
                       obtain ⟨ad287,e287,hx287_0,hx287_1,hx287_2,hx287_3,hx287_4,hx287_5,hx287_6,hx287_7,hx287_8,hx287_9⟩:=at_T36 HR0.out x77_4 p287 q287
                       obtain rfl : ad282 = ad287 := (by injection e287)
                       replace hx287_0:=(HB.out.cell (World.block_lt_of_cell? w _ hx287_0)).trans hx287_0
                       replace hx287_1:=(HB.out.cell (World.block_lt_of_cell? w _ hx287_1)).trans hx287_1
                       replace hx287_2:=(HB.out.cell (World.block_lt_of_cell? w _ hx287_2)).trans hx287_2
                       replace hx287_3:=(HB.out.cell (World.block_lt_of_cell? w _ hx287_3)).trans hx287_3
                       replace hx287_4:=(HB.out.cell (World.block_lt_of_cell? w _ hx287_4)).trans hx287_4
                       replace hx287_5:=(HB.out.cell (World.block_lt_of_cell? w _ hx287_5)).trans hx287_5
                       replace hx287_6:=(HB.out.cell (World.block_lt_of_cell? w _ hx287_6)).trans hx287_6
                       replace hx287_7:=(HB.out.cell (World.block_lt_of_cell? w _ hx287_7)).trans hx287_7
                       replace hx287_8:=(HB.out.cell (World.block_lt_of_cell? w _ hx287_8)).trans hx287_8
                       replace hx287_9:=(HB.out.cell (World.block_lt_of_cell? w _ hx287_9)).trans hx287_9
                       replace p287 := eq_true p287
                       replace q287 := eq_true q287
                       go_wp2_with (first|((with_reducible refine gate_dst (N:=18) rfl ?_);refine box_event ?hg (N:=18) ?hd (cs:=#[.int .i64 0,.int .i64 0,.bool false,.int .i64 0,.int .i64 0,.int .i64 0,.int .i64 0,.int .i64 0,.bool false,.string (⟨#[]⟩ : ByteArray)]) (t:=36) ?hr ?_;(case hd => rfl);(case hg => rfl);(case hr => first|(go_simp;done)|(go_simp;rfl));intro gb288 hg w57 hbox hb;have n0_:=Aside0.mk (Kd.R_below (by (with_reducible repeat (first|apply Kd.R_alloc|apply Kd.R_drewN|apply Kd.R_drew));exact HO_63.out) hb);have n1_:=Aside0.mk (Kd.R_below (by (with_reducible repeat (first|apply Kd.R_alloc|apply Kd.R_drewN|apply Kd.R_drew));exact HO_282000.out) hb);have n2_:=Aside0.mk (Kd.R_below (by (with_reducible repeat (first|apply Kd.R_alloc|apply Kd.R_drewN|apply Kd.R_drew));exact HO_282001.out) hb);have n3_:=Aside0.mk (blk_below (g:=gb281) (o:=.cells #[.slice (some ad285) t274.length co15,.slice Ao17 t277.length co17,.int .i64 t280] 28 (0,0)) (by (with_reducible repeat (first|refine blk_drewN ?_ _|refine blk_drew ?_|refine blk_alloc ?_ _));exact BK281.out) hb);have n4_:=Aside0.mk (blk_below (g:=gb283) (o:=.cells #[.int .i64 ((rd_T36 l0 x35_1).f0),.int .i64 ((rd_T36 l0 x35_1).f1),.bool ((rd_T36 l0 x35_1).f2),.int .i64 ((rd_T36 l0 x35_1).f3.f0),.int .i64 ((rd_T36 l0 x35_1).f3.f1),.int .i64 ((rd_T36 l0 x35_1).f3.f2),.int .i64 ((rd_T36 l0 x35_1).f3.f3),.int .i64 ((rd_T36 l0 x35_1).f3.f4),.bool ((rd_T36 l0 x35_1).f3.f5),.string ((rd_T36 l0 x35_1).f4)] 36 (0,0)) (by (with_reducible repeat (first|refine blk_drewN ?_ _|refine blk_drew ?_|refine blk_alloc ?_ _));exact BK283.out) hb);have n5_:=Aside0.mk (blk_below (g:=gb286) (o:=.cells #[.int .i64 ((rd_T40 t274 x65_3).f0),.int .i64 ((rd_T40 t274 x65_3).f1),.int .i64 ((rd_T40 t274 x65_3).f2)] 40 (0,0)) (by (with_reducible repeat (first|refine blk_drewN ?_ _|refine blk_drew ?_|refine blk_alloc ?_ _));exact BK286.out) hb);have n6_:=Aside0.mk (below_step (by repeat (first|(with_reducible first|exact HB.out|apply below_alloc|apply pw_below_drewN|apply below_drew1|refine below_set ?_ GE281.out|refine below_set ?_ GE283.out|refine below_set ?_ GE286.out)|exact HB.out)) hb);have n7_:=Aside0.mk (hbox);have n8_:=Aside0.mk ((by rw [hg];exact (below_size (by repeat (first|(with_reducible first|exact HB.out|apply below_alloc|apply pw_below_drewN|apply below_drew1|refine below_set ?_ GE281.out|refine below_set ?_ GE283.out|refine below_set ?_ GE286.out)|exact HB.out))) : w.heap.size ≤ gb288));have n9_:=Aside0.mk ((by rw [hg];exact (below_size (by repeat (first|(with_reducible first|exact HB.out|apply below_alloc|apply pw_below_drewN|apply below_drew1|refine below_set ?_ GE281.out|refine below_set ?_ GE283.out|refine below_set ?_ GE286.out)|exact HB.out))) : w.heap.size ≤ gb288));have n10_:=Aside0.mk ((by rw [hg];exact Nat.ne_of_lt (blk_lt (g:=gb281) (o:=.cells #[.slice (some ad285) t274.length co15,.slice Ao17 t277.length co17,.int .i64 t280] 28 (0,0)) (by (with_reducible repeat (first|refine blk_drewN ?_ _|refine blk_drew ?_|refine blk_alloc ?_ _));exact BK281.out)) : gb281 ≠ gb288));have n11_:=Aside0.mk ((by rw [hg];exact Nat.ne_of_gt (blk_lt (g:=gb281) (o:=.cells #[.slice (some ad285) t274.length co15,.slice Ao17 t277.length co17,.int .i64 t280] 28 (0,0)) (by (with_reducible repeat (first|refine blk_drewN ?_ _|refine blk_drew ?_|refine blk_alloc ?_ _));exact BK281.out)) : gb288 ≠ gb281));have n12_:=Aside0.mk ((by rw [hg];exact Nat.ne_of_lt (blk_lt (g:=gb283) (o:=.cells #[.int .i64 ((rd_T36 l0 x35_1).f0),.int .i64 ((rd_T36 l0 x35_1).f1),.bool ((rd_T36 l0 x35_1).f2),.int .i64 ((rd_T36 l0 x35_1).f3.f0),.int .i64 ((rd_T36 l0 x35_1).f3.f1),.int .i64 ((rd_T36 l0 x35_1).f3.f2),.int .i64 ((rd_T36 l0 x35_1).f3.f3),.int .i64 ((rd_T36 l0 x35_1).f3.f4),.bool ((rd_T36 l0 x35_1).f3.f5),.string ((rd_T36 l0 x35_1).f4)] 36 (0,0)) (by (with_reducible repeat (first|refine blk_drewN ?_ _|refine blk_drew ?_|refine blk_alloc ?_ _));exact BK283.out)) : gb283 ≠ gb288));have n13_:=Aside0.mk ((by rw [hg];exact Nat.ne_of_gt (blk_lt (g:=gb283) (o:=.cells #[.int .i64 ((rd_T36 l0 x35_1).f0),.int .i64 ((rd_T36 l0 x35_1).f1),.bool ((rd_T36 l0 x35_1).f2),.int .i64 ((rd_T36 l0 x35_1).f3.f0),.int .i64 ((rd_T36 l0 x35_1).f3.f1),.int .i64 ((rd_T36 l0 x35_1).f3.f2),.int .i64 ((rd_T36 l0 x35_1).f3.f3),.int .i64 ((rd_T36 l0 x35_1).f3.f4),.bool ((rd_T36 l0 x35_1).f3.f5),.string ((rd_T36 l0 x35_1).f4)] 36 (0,0)) (by (with_reducible repeat (first|refine blk_drewN ?_ _|refine blk_drew ?_|refine blk_alloc ?_ _));exact BK283.out)) : gb288 ≠ gb283));have n14_:=Aside0.mk ((by rw [hg];exact Nat.ne_of_lt (blk_lt (g:=gb286) (o:=.cells #[.int .i64 ((rd_T40 t274 x65_3).f0),.int .i64 ((rd_T40 t274 x65_3).f1),.int .i64 ((rd_T40 t274 x65_3).f2)] 40 (0,0)) (by (with_reducible repeat (first|refine blk_drewN ?_ _|refine blk_drew ?_|refine blk_alloc ?_ _));exact BK286.out)) : gb286 ≠ gb288));have n15_:=Aside0.mk ((by rw [hg];exact Nat.ne_of_gt (blk_lt (g:=gb286) (o:=.cells #[.int .i64 ((rd_T40 t274 x65_3).f0),.int .i64 ((rd_T40 t274 x65_3).f1),.int .i64 ((rd_T40 t274 x65_3).f2)] 40 (0,0)) (by (with_reducible repeat (first|refine blk_drewN ?_ _|refine blk_drew ?_|refine blk_alloc ?_ _));exact BK286.out)) : gb288 ≠ gb286));clear HO_63;clear HO_282000;clear HO_282001;clear BK281;clear BK283;clear BK286;clear HB;have HO_63:=n0_;have HO_282000:=n1_;have HO_282001:=n2_;have BK281:=n3_;have BK283:=n4_;have BK286:=n5_;have HB:=n6_;have BK288:=n7_;have GW288:=n8_;have GE288:=n9_;have NB281_288:=n10_;have NB288_281:=n11_;have NB283_288:=n12_;have NB288_283:=n13_;have NB286_288:=n14_;have NB288_286:=n15_;clear n0_ n1_ n2_ n3_ n4_ n5_ n6_ n7_ n8_ n9_ n10_ n11_ n12_ n13_ n14_ n15_;clear hb hbox hg;have hnb58:=NB288_281.out;have hnc58:=NB281_288.out;have hnb59:=NB288_283.out;have hnc59:=NB283_288.out;have hnb60:=NB288_286.out;have hnc60:=NB286_288.out;have hcz61_0 : w57.cell? ⟨gb288,0,none⟩ = some (.int .i64 0):=(blk_cell BK288.out 0).trans rfl;have hcz61_1 : w57.cell? ⟨gb288,1,none⟩ = some (.int .i64 0):=(blk_cell BK288.out 1).trans rfl;have hcz61_2 : w57.cell? ⟨gb288,2,none⟩ = some (.bool false):=(blk_cell BK288.out 2).trans rfl;have hcz61_3 : w57.cell? ⟨gb288,3,none⟩ = some (.int .i64 0):=(blk_cell BK288.out 3).trans rfl;have hcz61_4 : w57.cell? ⟨gb288,4,none⟩ = some (.int .i64 0):=(blk_cell BK288.out 4).trans rfl;have hcz61_5 : w57.cell? ⟨gb288,5,none⟩ = some (.int .i64 0):=(blk_cell BK288.out 5).trans rfl;have hcz61_6 : w57.cell? ⟨gb288,6,none⟩ = some (.int .i64 0):=(blk_cell BK288.out 6).trans rfl;have hcz61_7 : w57.cell? ⟨gb288,7,none⟩ = some (.int .i64 0):=(blk_cell BK288.out 7).trans rfl;have hcz61_8 : w57.cell? ⟨gb288,8,none⟩ = some (.bool false):=(blk_cell BK288.out 8).trans rfl;have hcz61_9 : w57.cell? ⟨gb288,9,none⟩ = some (.string (⟨#[]⟩ : ByteArray)):=(blk_cell BK288.out 9).trans rfl;have hfz61_0:=blk_frozen BK288.out 0;have hfz61_1:=blk_frozen BK288.out 1;have hfz61_2:=blk_frozen BK288.out 2;have hfz61_3:=blk_frozen BK288.out 3;have hfz61_4:=blk_frozen BK288.out 4;have hfz61_5:=blk_frozen BK288.out 5;have hfz61_6:=blk_frozen BK288.out 6;have hfz61_7:=blk_frozen BK288.out 7;have hfz61_8:=blk_frozen BK288.out 8;have hfz61_9:=blk_frozen BK288.out 9))
                       go_roundg k4
                       case measure => have:=HK1.out;have:=HJ20.out;have:=HK3.out;have:=HK4.out;omega
                       case rel => exact ⟨(true),(wrap64 (x77_4 + 1)),(by first|rfl|(simp;done)|(simp [*];done)),(by first|rfl|(simp;done)|(simp [*];done)),H',⟨by have:=HK1.out;have:=HJ20.out;have:=HK3.out;have:=HK4.out;omega⟩,⟨by (with_reducible repeat (first|apply Kd.R_alloc|apply Kd.R_drewN|apply Kd.R_drew));exact Kd.R_mono (Kd.R_far (p:=⟨gb288,9,none⟩) (Kd.R_far (p:=⟨gb288,8,none⟩) (Kd.R_far (p:=⟨gb288,7,none⟩) (Kd.R_far (p:=⟨gb288,6,none⟩) (Kd.R_far (p:=⟨gb288,5,none⟩) (Kd.R_far (p:=⟨gb288,4,none⟩) (Kd.R_far (p:=⟨gb288,3,none⟩) (Kd.R_far (p:=⟨gb288,2,none⟩) (Kd.R_far (p:=⟨gb288,1,none⟩) (Kd.R_far (p:=⟨gb288,0,none⟩) (Kd.R_types HO_63.out BK288.out (by decide)) (fun _ hk => hk.2) (.int .i64 ((rd_T36 l0 x77_4).f0))) (fun _ hk => hk.2) (.int .i64 ((rd_T36 l0 x77_4).f1))) (fun _ hk => hk.2) (.bool ((rd_T36 l0 x77_4).f2))) (fun _ hk => hk.2) (.int .i64 ((rd_T36 l0 x77_4).f3.f0))) (fun _ hk => hk.2) (.int .i64 ((rd_T36 l0 x77_4).f3.f1))) (fun _ hk => hk.2) (.int .i64 ((rd_T36 l0 x77_4).f3.f2))) (fun _ hk => hk.2) (.int .i64 ((rd_T36 l0 x77_4).f3.f3))) (fun _ hk => hk.2) (.int .i64 ((rd_T36 l0 x77_4).f3.f4))) (fun _ hk => hk.2) (.bool ((rd_T36 l0 x77_4).f3.f5))) (fun _ hk => hk.2) (.string ((rd_T36 l0 x77_4).f4))) (fun _ hk => hk.1)⟩,⟨by (with_reducible repeat (first|apply Kd.R_alloc|apply Kd.R_drewN|apply Kd.R_drew));exact Kd.R_mono (Kd.R_far (p:=⟨gb288,9,none⟩) (Kd.R_far (p:=⟨gb288,8,none⟩) (Kd.R_far (p:=⟨gb288,7,none⟩) (Kd.R_far (p:=⟨gb288,6,none⟩) (Kd.R_far (p:=⟨gb288,5,none⟩) (Kd.R_far (p:=⟨gb288,4,none⟩) (Kd.R_far (p:=⟨gb288,3,none⟩) (Kd.R_far (p:=⟨gb288,2,none⟩) (Kd.R_far (p:=⟨gb288,1,none⟩) (Kd.R_far (p:=⟨gb288,0,none⟩) (Kd.R_types HO_282000.out BK288.out (by decide)) (fun _ hk => hk.2) (.int .i64 ((rd_T36 l0 x77_4).f0))) (fun _ hk => hk.2) (.int .i64 ((rd_T36 l0 x77_4).f1))) (fun _ hk => hk.2) (.bool ((rd_T36 l0 x77_4).f2))) (fun _ hk => hk.2) (.int .i64 ((rd_T36 l0 x77_4).f3.f0))) (fun _ hk => hk.2) (.int .i64 ((rd_T36 l0 x77_4).f3.f1))) (fun _ hk => hk.2) (.int .i64 ((rd_T36 l0 x77_4).f3.f2))) (fun _ hk => hk.2) (.int .i64 ((rd_T36 l0 x77_4).f3.f3))) (fun _ hk => hk.2) (.int .i64 ((rd_T36 l0 x77_4).f3.f4))) (fun _ hk => hk.2) (.bool ((rd_T36 l0 x77_4).f3.f5))) (fun _ hk => hk.2) (.string ((rd_T36 l0 x77_4).f4))) (fun _ hk => hk.1)⟩,⟨by (with_reducible repeat (first|apply Kd.R_alloc|apply Kd.R_drewN|apply Kd.R_drew));exact Kd.R_mono (Kd.R_far (p:=⟨gb288,9,none⟩) (Kd.R_far (p:=⟨gb288,8,none⟩) (Kd.R_far (p:=⟨gb288,7,none⟩) (Kd.R_far (p:=⟨gb288,6,none⟩) (Kd.R_far (p:=⟨gb288,5,none⟩) (Kd.R_far (p:=⟨gb288,4,none⟩) (Kd.R_far (p:=⟨gb288,3,none⟩) (Kd.R_far (p:=⟨gb288,2,none⟩) (Kd.R_far (p:=⟨gb288,1,none⟩) (Kd.R_far (p:=⟨gb288,0,none⟩) (Kd.R_types HO_282001.out BK288.out (by decide)) (fun _ hk => hk.2) (.int .i64 ((rd_T36 l0 x77_4).f0))) (fun _ hk => hk.2) (.int .i64 ((rd_T36 l0 x77_4).f1))) (fun _ hk => hk.2) (.bool ((rd_T36 l0 x77_4).f2))) (fun _ hk => hk.2) (.int .i64 ((rd_T36 l0 x77_4).f3.f0))) (fun _ hk => hk.2) (.int .i64 ((rd_T36 l0 x77_4).f3.f1))) (fun _ hk => hk.2) (.int .i64 ((rd_T36 l0 x77_4).f3.f2))) (fun _ hk => hk.2) (.int .i64 ((rd_T36 l0 x77_4).f3.f3))) (fun _ hk => hk.2) (.int .i64 ((rd_T36 l0 x77_4).f3.f4))) (fun _ hk => hk.2) (.bool ((rd_T36 l0 x77_4).f3.f5))) (fun _ hk => hk.2) (.string ((rd_T36 l0 x77_4).f4))) (fun _ hk => trivial)⟩,⟨by (with_reducible repeat (first|refine blk_drewN ?_ _|refine blk_drew ?_|refine blk_alloc ?_ _));refine blk_far ?_ NB281_288.out _;(with_reducible repeat (first|refine blk_drewN ?_ _|refine blk_drew ?_|refine blk_alloc ?_ _));refine blk_far ?_ NB281_288.out _;(with_reducible repeat (first|refine blk_drewN ?_ _|refine blk_drew ?_|refine blk_alloc ?_ _));refine blk_far ?_ NB281_288.out _;(with_reducible repeat (first|refine blk_drewN ?_ _|refine blk_drew ?_|refine blk_alloc ?_ _));refine blk_far ?_ NB281_288.out _;(with_reducible repeat (first|refine blk_drewN ?_ _|refine blk_drew ?_|refine blk_alloc ?_ _));refine blk_far ?_ NB281_288.out _;(with_reducible repeat (first|refine blk_drewN ?_ _|refine blk_drew ?_|refine blk_alloc ?_ _));refine blk_far ?_ NB281_288.out _;(with_reducible repeat (first|refine blk_drewN ?_ _|refine blk_drew ?_|refine blk_alloc ?_ _));refine blk_far ?_ NB281_288.out _;(with_reducible repeat (first|refine blk_drewN ?_ _|refine blk_drew ?_|refine blk_alloc ?_ _));refine blk_far ?_ NB281_288.out _;(with_reducible repeat (first|refine blk_drewN ?_ _|refine blk_drew ?_|refine blk_alloc ?_ _));refine blk_far ?_ NB281_288.out _;(with_reducible repeat (first|refine blk_drewN ?_ _|refine blk_drew ?_|refine blk_alloc ?_ _));refine blk_far ?_ NB281_288.out _;(with_reducible repeat (first|refine blk_drewN ?_ _|refine blk_drew ?_|refine blk_alloc ?_ _));exact BK281.out⟩,⟨by (with_reducible repeat (first|refine blk_drewN ?_ _|refine blk_drew ?_|refine blk_alloc ?_ _));refine blk_far ?_ NB283_288.out _;(with_reducible repeat (first|refine blk_drewN ?_ _|refine blk_drew ?_|refine blk_alloc ?_ _));refine blk_far ?_ NB283_288.out _;(with_reducible repeat (first|refine blk_drewN ?_ _|refine blk_drew ?_|refine blk_alloc ?_ _));refine blk_far ?_ NB283_288.out _;(with_reducible repeat (first|refine blk_drewN ?_ _|refine blk_drew ?_|refine blk_alloc ?_ _));refine blk_far ?_ NB283_288.out _;(with_reducible repeat (first|refine blk_drewN ?_ _|refine blk_drew ?_|refine blk_alloc ?_ _));refine blk_far ?_ NB283_288.out _;(with_reducible repeat (first|refine blk_drewN ?_ _|refine blk_drew ?_|refine blk_alloc ?_ _));refine blk_far ?_ NB283_288.out _;(with_reducible repeat (first|refine blk_drewN ?_ _|refine blk_drew ?_|refine blk_alloc ?_ _));refine blk_far ?_ NB283_288.out _;(with_reducible repeat (first|refine blk_drewN ?_ _|refine blk_drew ?_|refine blk_alloc ?_ _));refine blk_far ?_ NB283_288.out _;(with_reducible repeat (first|refine blk_drewN ?_ _|refine blk_drew ?_|refine blk_alloc ?_ _));refine blk_far ?_ NB283_288.out _;(with_reducible repeat (first|refine blk_drewN ?_ _|refine blk_drew ?_|refine blk_alloc ?_ _));refine blk_far ?_ NB283_288.out _;(with_reducible repeat (first|refine blk_drewN ?_ _|refine blk_drew ?_|refine blk_alloc ?_ _));exact BK283.out⟩,⟨by (with_reducible repeat (first|refine blk_drewN ?_ _|refine blk_drew ?_|refine blk_alloc ?_ _));refine blk_far ?_ NB286_288.out _;(with_reducible repeat (first|refine blk_drewN ?_ _|refine blk_drew ?_|refine blk_alloc ?_ _));refine blk_far ?_ NB286_288.out _;(with_reducible repeat (first|refine blk_drewN ?_ _|refine blk_drew ?_|refine blk_alloc ?_ _));refine blk_far ?_ NB286_288.out _;(with_reducible repeat (first|refine blk_drewN ?_ _|refine blk_drew ?_|refine blk_alloc ?_ _));refine blk_far ?_ NB286_288.out _;(with_reducible repeat (first|refine blk_drewN ?_ _|refine blk_drew ?_|refine blk_alloc ?_ _));refine blk_far ?_ NB286_288.out _;(with_reducible repeat (first|refine blk_drewN ?_ _|refine blk_drew ?_|refine blk_alloc ?_ _));refine blk_far ?_ NB286_288.out _;(with_reducible repeat (first|refine blk_drewN ?_ _|refine blk_drew ?_|refine blk_alloc ?_ _));refine blk_far ?_ NB286_288.out _;(with_reducible repeat (first|refine blk_drewN ?_ _|refine blk_drew ?_|refine blk_alloc ?_ _));refine blk_far ?_ NB286_288.out _;(with_reducible repeat (first|refine blk_drewN ?_ _|refine blk_drew ?_|refine blk_alloc ?_ _));refine blk_far ?_ NB286_288.out _;(with_reducible repeat (first|refine blk_drewN ?_ _|refine blk_drew ?_|refine blk_alloc ?_ _));refine blk_far ?_ NB286_288.out _;(with_reducible repeat (first|refine blk_drewN ?_ _|refine blk_drew ?_|refine blk_alloc ?_ _));exact BK286.out⟩,⟨by repeat (first|(with_reducible first|exact HB.out|apply below_alloc|apply pw_below_drewN|apply below_drew1|refine below_set ?_ GE281.out|refine below_set ?_ GE283.out|refine below_set ?_ GE286.out|refine below_set ?_ GE288.out)|exact HB.out)⟩⟩
                      ·replace c56 := Bool.eq_false_iff.mpr c56
                       subst c56
                       have H1 : (if ((rd_T36 l0 x77_4).f0) = ((rd_T40 t274 x65_3).f1) then (if ((rd_T36 l0 x77_4).f1) = ((rd_T40 t274 x65_3).f2) then ((almshouseref17_Mine.f ((rd_T36 l0 x77_4).f0) ((rd_T36 l0 x77_4).f1) ((rd_T36 l0 x77_4).f2) ((rd_T36 l0 x77_4).f3.f0) ((rd_T36 l0 x77_4).f3.f1) ((rd_T36 l0 x77_4).f3.f2) ((rd_T36 l0 x77_4).f3.f3) ((rd_T36 l0 x77_4).f3.f4) ((rd_T36 l0 x77_4).f3.f5) ((rd_T36 l0 x77_4).f4) a2 a3).bind fun t289 => (if t289 = true then (if ((rd_T36 l0 x77_4).f3.f2) = ((rd_T40 t274 x65_3).f0) then (almshouselaw17_HealKeeps.l2 k4 l0 a1 a2 a3 a4 (decide (((rd_T36 l0 x77_4).f3.f3) ≥ ((rd_T36 l0 x35_1).f3.f3))) l0 (l0.length : Int) x35_1 t274 (t274.length : Int) x65_3 l0 (l0.length : Int) (wrap64 (x77_4 + 1)) t274 t277 t280 ((rd_T36 l0 x35_1).f0) ((rd_T36 l0 x35_1).f1) ((rd_T36 l0 x35_1).f2) ((rd_T36 l0 x35_1).f3.f0) ((rd_T36 l0 x35_1).f3.f1) ((rd_T36 l0 x35_1).f3.f2) ((rd_T36 l0 x35_1).f3.f3) ((rd_T36 l0 x35_1).f3.f4) ((rd_T36 l0 x35_1).f3.f5) ((rd_T36 l0 x35_1).f4) ((rd_T40 t274 x65_3).f0) ((rd_T40 t274 x65_3).f1) ((rd_T40 t274 x65_3).f2)) else (almshouselaw17_HealKeeps.l2 k4 l0 a1 a2 a3 a4 false l0 (l0.length : Int) x35_1 t274 (t274.length : Int) x65_3 l0 (l0.length : Int) (wrap64 (x77_4 + 1)) t274 t277 t280 ((rd_T36 l0 x35_1).f0) ((rd_T36 l0 x35_1).f1) ((rd_T36 l0 x35_1).f2) ((rd_T36 l0 x35_1).f3.f0) ((rd_T36 l0 x35_1).f3.f1) ((rd_T36 l0 x35_1).f3.f2) ((rd_T36 l0 x35_1).f3.f3) ((rd_T36 l0 x35_1).f3.f4) ((rd_T36 l0 x35_1).f3.f5) ((rd_T36 l0 x35_1).f4) ((rd_T40 t274 x65_3).f0) ((rd_T40 t274 x65_3).f1) ((rd_T40 t274 x65_3).f2))) else (almshouselaw17_HealKeeps.l2 k4 l0 a1 a2 a3 a4 false l0 (l0.length : Int) x35_1 t274 (t274.length : Int) x65_3 l0 (l0.length : Int) (wrap64 (x77_4 + 1)) t274 t277 t280 ((rd_T36 l0 x35_1).f0) ((rd_T36 l0 x35_1).f1) ((rd_T36 l0 x35_1).f2) ((rd_T36 l0 x35_1).f3.f0) ((rd_T36 l0 x35_1).f3.f1) ((rd_T36 l0 x35_1).f3.f2) ((rd_T36 l0 x35_1).f3.f3) ((rd_T36 l0 x35_1).f3.f4) ((rd_T36 l0 x35_1).f3.f5) ((rd_T36 l0 x35_1).f4) ((rd_T40 t274 x65_3).f0) ((rd_T40 t274 x65_3).f1) ((rd_T40 t274 x65_3).f2)))) else (almshouselaw17_HealKeeps.l2 k4 l0 a1 a2 a3 a4 false l0 (l0.length : Int) x35_1 t274 (t274.length : Int) x65_3 l0 (l0.length : Int) (wrap64 (x77_4 + 1)) t274 t277 t280 ((rd_T36 l0 x35_1).f0) ((rd_T36 l0 x35_1).f1) ((rd_T36 l0 x35_1).f2) ((rd_T36 l0 x35_1).f3.f0) ((rd_T36 l0 x35_1).f3.f1) ((rd_T36 l0 x35_1).f3.f2) ((rd_T36 l0 x35_1).f3.f3) ((rd_T36 l0 x35_1).f3.f4) ((rd_T36 l0 x35_1).f3.f5) ((rd_T36 l0 x35_1).f4) ((rd_T40 t274 x65_3).f0) ((rd_T40 t274 x65_3).f1) ((rd_T40 t274 x65_3).f2))) else (almshouselaw17_HealKeeps.l2 k4 l0 a1 a2 a3 a4 false l0 (l0.length : Int) x35_1 t274 (t274.length : Int) x65_3 l0 (l0.length : Int) (wrap64 (x77_4 + 1)) t274 t277 t280 ((rd_T36 l0 x35_1).f0) ((rd_T36 l0 x35_1).f1) ((rd_T36 l0 x35_1).f2) ((rd_T36 l0 x35_1).f3.f0) ((rd_T36 l0 x35_1).f3.f1) ((rd_T36 l0 x35_1).f3.f2) ((rd_T36 l0 x35_1).f3.f3) ((rd_T36 l0 x35_1).f3.f4) ((rd_T36 l0 x35_1).f3.f5) ((rd_T36 l0 x35_1).f4) ((rd_T40 t274 x65_3).f0) ((rd_T40 t274 x65_3).f1) ((rd_T40 t274 x65_3).f2))) = some r:=by rw [if_neg (show ¬ (false = true) by decide)] at H;exact H
                       clear H
                       have H := H1
                       clear H1
                       by_cases c62 : ((rd_T36 l0 x77_4).f0) = ((rd_T40 t274 x65_3).f1)
                       ·rw [if_pos c62] at H
                        have c62b0 : (((rd_T36 l0 x77_4).f0) == ((rd_T40 t274 x65_3).f1)) = true:=beq_iff_eq.mpr c62
                        have c62b1 : (((rd_T36 l0 x77_4).f0) != ((rd_T40 t274 x65_3).f1)) = false:=bne_eq_false_iff_eq.mpr c62
                        clear c62
                        by_cases c63 : ((rd_T36 l0 x77_4).f1) = ((rd_T40 t274 x65_3).f2)
                        ·rw [if_pos c63] at H
                         have c63b0 : (((rd_T36 l0 x77_4).f1) == ((rd_T40 t274 x65_3).f2)) = true:=beq_iff_eq.mpr c63
                         have c63b1 : (((rd_T36 l0 x77_4).f1) != ((rd_T40 t274 x65_3).f2)) = false:=bne_eq_false_iff_eq.mpr c63
                         clear c63
                         replace H := Option.bind_eq_some_iff.mp H
                         obtain ⟨t289, A640, H⟩ := H
                         replace H : (if t289 = true then (if ((rd_T36 l0 x77_4).f3.f2) = ((rd_T40 t274 x65_3).f0) then (almshouselaw17_HealKeeps.l2 k4 l0 a1 a2 a3 a4 (decide (((rd_T36 l0 x77_4).f3.f3) ≥ ((rd_T36 l0 x35_1).f3.f3))) l0 (l0.length : Int) x35_1 t274 (t274.length : Int) x65_3 l0 (l0.length : Int) (wrap64 (x77_4 + 1)) t274 t277 t280 ((rd_T36 l0 x35_1).f0) ((rd_T36 l0 x35_1).f1) ((rd_T36 l0 x35_1).f2) ((rd_T36 l0 x35_1).f3.f0) ((rd_T36 l0 x35_1).f3.f1) ((rd_T36 l0 x35_1).f3.f2) ((rd_T36 l0 x35_1).f3.f3) ((rd_T36 l0 x35_1).f3.f4) ((rd_T36 l0 x35_1).f3.f5) ((rd_T36 l0 x35_1).f4) ((rd_T40 t274 x65_3).f0) ((rd_T40 t274 x65_3).f1) ((rd_T40 t274 x65_3).f2)) else (almshouselaw17_HealKeeps.l2 k4 l0 a1 a2 a3 a4 false l0 (l0.length : Int) x35_1 t274 (t274.length : Int) x65_3 l0 (l0.length : Int) (wrap64 (x77_4 + 1)) t274 t277 t280 ((rd_T36 l0 x35_1).f0) ((rd_T36 l0 x35_1).f1) ((rd_T36 l0 x35_1).f2) ((rd_T36 l0 x35_1).f3.f0) ((rd_T36 l0 x35_1).f3.f1) ((rd_T36 l0 x35_1).f3.f2) ((rd_T36 l0 x35_1).f3.f3) ((rd_T36 l0 x35_1).f3.f4) ((rd_T36 l0 x35_1).f3.f5) ((rd_T36 l0 x35_1).f4) ((rd_T40 t274 x65_3).f0) ((rd_T40 t274 x65_3).f1) ((rd_T40 t274 x65_3).f2))) else (almshouselaw17_HealKeeps.l2 k4 l0 a1 a2 a3 a4 false l0 (l0.length : Int) x35_1 t274 (t274.length : Int) x65_3 l0 (l0.length : Int) (wrap64 (x77_4 + 1)) t274 t277 t280 ((rd_T36 l0 x35_1).f0) ((rd_T36 l0 x35_1).f1) ((rd_T36 l0 x35_1).f2) ((rd_T36 l0 x35_1).f3.f0) ((rd_T36 l0 x35_1).f3.f1) ((rd_T36 l0 x35_1).f3.f2) ((rd_T36 l0 x35_1).f3.f3) ((rd_T36 l0 x35_1).f3.f4) ((rd_T36 l0 x35_1).f3.f5) ((rd_T36 l0 x35_1).f4) ((rd_T40 t274 x65_3).f0) ((rd_T40 t274 x65_3).f1) ((rd_T40 t274 x65_3).f2))) = some r:=H
                         have A64 := Aside0.mk A640
                         clear A640
                         by_cases c65 : t289 = true
                         ·subst c65
                          have H1 : (if ((rd_T36 l0 x77_4).f3.f2) = ((rd_T40 t274 x65_3).f0) then (almshouselaw17_HealKeeps.l2 k4 l0 a1 a2 a3 a4 (decide (((rd_T36 l0 x77_4).f3.f3) ≥ ((rd_T36 l0 x35_1).f3.f3))) l0 (l0.length : Int) x35_1 t274 (t274.length : Int) x65_3 l0 (l0.length : Int) (wrap64 (x77_4 + 1)) t274 t277 t280 ((rd_T36 l0 x35_1).f0) ((rd_T36 l0 x35_1).f1) ((rd_T36 l0 x35_1).f2) ((rd_T36 l0 x35_1).f3.f0) ((rd_T36 l0 x35_1).f3.f1) ((rd_T36 l0 x35_1).f3.f2) ((rd_T36 l0 x35_1).f3.f3) ((rd_T36 l0 x35_1).f3.f4) ((rd_T36 l0 x35_1).f3.f5) ((rd_T36 l0 x35_1).f4) ((rd_T40 t274 x65_3).f0) ((rd_T40 t274 x65_3).f1) ((rd_T40 t274 x65_3).f2)) else (almshouselaw17_HealKeeps.l2 k4 l0 a1 a2 a3 a4 false l0 (l0.length : Int) x35_1 t274 (t274.length : Int) x65_3 l0 (l0.length : Int) (wrap64 (x77_4 + 1)) t274 t277 t280 ((rd_T36 l0 x35_1).f0) ((rd_T36 l0 x35_1).f1) ((rd_T36 l0 x35_1).f2) ((rd_T36 l0 x35_1).f3.f0) ((rd_T36 l0 x35_1).f3.f1) ((rd_T36 l0 x35_1).f3.f2) ((rd_T36 l0 x35_1).f3.f3) ((rd_T36 l0 x35_1).f3.f4) ((rd_T36 l0 x35_1).f3.f5) ((rd_T36 l0 x35_1).f4) ((rd_T40 t274 x65_3).f0) ((rd_T40 t274 x65_3).f1) ((rd_T40 t274 x65_3).f2))) = some r:=by rw [if_pos rfl] at H;exact H
                          clear H
                          have H := H1
                          clear H1
                          by_cases c66 : ((rd_T36 l0 x77_4).f3.f2) = ((rd_T40 t274 x65_3).f0)
                          ·rw [if_pos c66] at H
                           have c66b0 : (((rd_T36 l0 x77_4).f3.f2) == ((rd_T40 t274 x65_3).f0)) = true:=beq_iff_eq.mpr c66
                           have c66b1 : (((rd_T36 l0 x77_4).f3.f2) != ((rd_T40 t274 x65_3).f0)) = false:=bne_eq_false_iff_eq.mpr c66
                           clear c66
                           have H' := Aside0.mk H
                           clear H
                           have p287 : 0 ≤ (x77_4 : Int):=of_decide_eq_true (by first|(with_reducible assumption)|assumption)
                           have q287 : x77_4 < (l0.length : Int):=of_decide_eq_true (by first|(with_reducible assumption)|assumption)
                           obtain ⟨ad287,e287,hx287_0,hx287_1,hx287_2,hx287_3,hx287_4,hx287_5,hx287_6,hx287_7,hx287_8,hx287_9⟩:=at_T36 HR0.out x77_4 p287 q287
                           obtain rfl : ad282 = ad287 := (by injection e287)
                           replace hx287_0:=(HB.out.cell (World.block_lt_of_cell? w _ hx287_0)).trans hx287_0
                           replace hx287_1:=(HB.out.cell (World.block_lt_of_cell? w _ hx287_1)).trans hx287_1
                           replace hx287_2:=(HB.out.cell (World.block_lt_of_cell? w _ hx287_2)).trans hx287_2
                           replace hx287_3:=(HB.out.cell (World.block_lt_of_cell? w _ hx287_3)).trans hx287_3
                           replace hx287_4:=(HB.out.cell (World.block_lt_of_cell? w _ hx287_4)).trans hx287_4
                           replace hx287_5:=(HB.out.cell (World.block_lt_of_cell? w _ hx287_5)).trans hx287_5
                           replace hx287_6:=(HB.out.cell (World.block_lt_of_cell? w _ hx287_6)).trans hx287_6
                           replace hx287_7:=(HB.out.cell (World.block_lt_of_cell? w _ hx287_7)).trans hx287_7
                           replace hx287_8:=(HB.out.cell (World.block_lt_of_cell? w _ hx287_8)).trans hx287_8
                           replace hx287_9:=(HB.out.cell (World.block_lt_of_cell? w _ hx287_9)).trans hx287_9
                           replace p287 := eq_true p287
                           replace q287 := eq_true q287
                           go_wp2_with (first|((with_reducible refine gate_dst (N:=18) rfl ?_);refine box_event ?hg (N:=18) ?hd (cs:=#[.int .i64 0,.int .i64 0,.bool false,.int .i64 0,.int .i64 0,.int .i64 0,.int .i64 0,.int .i64 0,.bool false,.string (⟨#[]⟩ : ByteArray)]) (t:=36) ?hr ?_;(case hd => rfl);(case hg => rfl);(case hr => first|(go_simp;done)|(go_simp;rfl));intro gb288 hg w67 hbox hb;have n0_:=Aside0.mk (Kd.R_below (by (with_reducible repeat (first|apply Kd.R_alloc|apply Kd.R_drewN|apply Kd.R_drew));exact HO_63.out) hb);have n1_:=Aside0.mk (Kd.R_below (by (with_reducible repeat (first|apply Kd.R_alloc|apply Kd.R_drewN|apply Kd.R_drew));exact HO_282000.out) hb);have n2_:=Aside0.mk (Kd.R_below (by (with_reducible repeat (first|apply Kd.R_alloc|apply Kd.R_drewN|apply Kd.R_drew));exact HO_282001.out) hb);have n3_:=Aside0.mk (blk_below (g:=gb281) (o:=.cells #[.slice (some ad285) t274.length co15,.slice Ao17 t277.length co17,.int .i64 t280] 28 (0,0)) (by (with_reducible repeat (first|refine blk_drewN ?_ _|refine blk_drew ?_|refine blk_alloc ?_ _));exact BK281.out) hb);have n4_:=Aside0.mk (blk_below (g:=gb283) (o:=.cells #[.int .i64 ((rd_T36 l0 x35_1).f0),.int .i64 ((rd_T36 l0 x35_1).f1),.bool ((rd_T36 l0 x35_1).f2),.int .i64 ((rd_T36 l0 x35_1).f3.f0),.int .i64 ((rd_T36 l0 x35_1).f3.f1),.int .i64 ((rd_T36 l0 x35_1).f3.f2),.int .i64 ((rd_T36 l0 x35_1).f3.f3),.int .i64 ((rd_T36 l0 x35_1).f3.f4),.bool ((rd_T36 l0 x35_1).f3.f5),.string ((rd_T36 l0 x35_1).f4)] 36 (0,0)) (by (with_reducible repeat (first|refine blk_drewN ?_ _|refine blk_drew ?_|refine blk_alloc ?_ _));exact BK283.out) hb);have n5_:=Aside0.mk (blk_below (g:=gb286) (o:=.cells #[.int .i64 ((rd_T40 t274 x65_3).f0),.int .i64 ((rd_T40 t274 x65_3).f1),.int .i64 ((rd_T40 t274 x65_3).f2)] 40 (0,0)) (by (with_reducible repeat (first|refine blk_drewN ?_ _|refine blk_drew ?_|refine blk_alloc ?_ _));exact BK286.out) hb);have n6_:=Aside0.mk (below_step (by repeat (first|(with_reducible first|exact HB.out|apply below_alloc|apply pw_below_drewN|apply below_drew1|refine below_set ?_ GE281.out|refine below_set ?_ GE283.out|refine below_set ?_ GE286.out)|exact HB.out)) hb);have n7_:=Aside0.mk (hbox);have n8_:=Aside0.mk ((by rw [hg];exact (below_size (by repeat (first|(with_reducible first|exact HB.out|apply below_alloc|apply pw_below_drewN|apply below_drew1|refine below_set ?_ GE281.out|refine below_set ?_ GE283.out|refine below_set ?_ GE286.out)|exact HB.out))) : w.heap.size ≤ gb288));have n9_:=Aside0.mk ((by rw [hg];exact (below_size (by repeat (first|(with_reducible first|exact HB.out|apply below_alloc|apply pw_below_drewN|apply below_drew1|refine below_set ?_ GE281.out|refine below_set ?_ GE283.out|refine below_set ?_ GE286.out)|exact HB.out))) : w.heap.size ≤ gb288));have n10_:=Aside0.mk ((by rw [hg];exact Nat.ne_of_lt (blk_lt (g:=gb281) (o:=.cells #[.slice (some ad285) t274.length co15,.slice Ao17 t277.length co17,.int .i64 t280] 28 (0,0)) (by (with_reducible repeat (first|refine blk_drewN ?_ _|refine blk_drew ?_|refine blk_alloc ?_ _));exact BK281.out)) : gb281 ≠ gb288));have n11_:=Aside0.mk ((by rw [hg];exact Nat.ne_of_gt (blk_lt (g:=gb281) (o:=.cells #[.slice (some ad285) t274.length co15,.slice Ao17 t277.length co17,.int .i64 t280] 28 (0,0)) (by (with_reducible repeat (first|refine blk_drewN ?_ _|refine blk_drew ?_|refine blk_alloc ?_ _));exact BK281.out)) : gb288 ≠ gb281));have n12_:=Aside0.mk ((by rw [hg];exact Nat.ne_of_lt (blk_lt (g:=gb283) (o:=.cells #[.int .i64 ((rd_T36 l0 x35_1).f0),.int .i64 ((rd_T36 l0 x35_1).f1),.bool ((rd_T36 l0 x35_1).f2),.int .i64 ((rd_T36 l0 x35_1).f3.f0),.int .i64 ((rd_T36 l0 x35_1).f3.f1),.int .i64 ((rd_T36 l0 x35_1).f3.f2),.int .i64 ((rd_T36 l0 x35_1).f3.f3),.int .i64 ((rd_T36 l0 x35_1).f3.f4),.bool ((rd_T36 l0 x35_1).f3.f5),.string ((rd_T36 l0 x35_1).f4)] 36 (0,0)) (by (with_reducible repeat (first|refine blk_drewN ?_ _|refine blk_drew ?_|refine blk_alloc ?_ _));exact BK283.out)) : gb283 ≠ gb288));have n13_:=Aside0.mk ((by rw [hg];exact Nat.ne_of_gt (blk_lt (g:=gb283) (o:=.cells #[.int .i64 ((rd_T36 l0 x35_1).f0),.int .i64 ((rd_T36 l0 x35_1).f1),.bool ((rd_T36 l0 x35_1).f2),.int .i64 ((rd_T36 l0 x35_1).f3.f0),.int .i64 ((rd_T36 l0 x35_1).f3.f1),.int .i64 ((rd_T36 l0 x35_1).f3.f2),.int .i64 ((rd_T36 l0 x35_1).f3.f3),.int .i64 ((rd_T36 l0 x35_1).f3.f4),.bool ((rd_T36 l0 x35_1).f3.f5),.string ((rd_T36 l0 x35_1).f4)] 36 (0,0)) (by (with_reducible repeat (first|refine blk_drewN ?_ _|refine blk_drew ?_|refine blk_alloc ?_ _));exact BK283.out)) : gb288 ≠ gb283));have n14_:=Aside0.mk ((by rw [hg];exact Nat.ne_of_lt (blk_lt (g:=gb286) (o:=.cells #[.int .i64 ((rd_T40 t274 x65_3).f0),.int .i64 ((rd_T40 t274 x65_3).f1),.int .i64 ((rd_T40 t274 x65_3).f2)] 40 (0,0)) (by (with_reducible repeat (first|refine blk_drewN ?_ _|refine blk_drew ?_|refine blk_alloc ?_ _));exact BK286.out)) : gb286 ≠ gb288));have n15_:=Aside0.mk ((by rw [hg];exact Nat.ne_of_gt (blk_lt (g:=gb286) (o:=.cells #[.int .i64 ((rd_T40 t274 x65_3).f0),.int .i64 ((rd_T40 t274 x65_3).f1),.int .i64 ((rd_T40 t274 x65_3).f2)] 40 (0,0)) (by (with_reducible repeat (first|refine blk_drewN ?_ _|refine blk_drew ?_|refine blk_alloc ?_ _));exact BK286.out)) : gb288 ≠ gb286));clear HO_63;clear HO_282000;clear HO_282001;clear BK281;clear BK283;clear BK286;clear HB;have HO_63:=n0_;have HO_282000:=n1_;have HO_282001:=n2_;have BK281:=n3_;have BK283:=n4_;have BK286:=n5_;have HB:=n6_;have BK288:=n7_;have GW288:=n8_;have GE288:=n9_;have NB281_288:=n10_;have NB288_281:=n11_;have NB283_288:=n12_;have NB288_283:=n13_;have NB286_288:=n14_;have NB288_286:=n15_;clear n0_ n1_ n2_ n3_ n4_ n5_ n6_ n7_ n8_ n9_ n10_ n11_ n12_ n13_ n14_ n15_;clear hb hbox hg;have hnb68:=NB288_281.out;have hnc68:=NB281_288.out;have hnb69:=NB288_283.out;have hnc69:=NB283_288.out;have hnb70:=NB288_286.out;have hnc70:=NB286_288.out;have hcz71_0 : w67.cell? ⟨gb288,0,none⟩ = some (.int .i64 0):=(blk_cell BK288.out 0).trans rfl;have hcz71_1 : w67.cell? ⟨gb288,1,none⟩ = some (.int .i64 0):=(blk_cell BK288.out 1).trans rfl;have hcz71_2 : w67.cell? ⟨gb288,2,none⟩ = some (.bool false):=(blk_cell BK288.out 2).trans rfl;have hcz71_3 : w67.cell? ⟨gb288,3,none⟩ = some (.int .i64 0):=(blk_cell BK288.out 3).trans rfl;have hcz71_4 : w67.cell? ⟨gb288,4,none⟩ = some (.int .i64 0):=(blk_cell BK288.out 4).trans rfl;have hcz71_5 : w67.cell? ⟨gb288,5,none⟩ = some (.int .i64 0):=(blk_cell BK288.out 5).trans rfl;have hcz71_6 : w67.cell? ⟨gb288,6,none⟩ = some (.int .i64 0):=(blk_cell BK288.out 6).trans rfl;have hcz71_7 : w67.cell? ⟨gb288,7,none⟩ = some (.int .i64 0):=(blk_cell BK288.out 7).trans rfl;have hcz71_8 : w67.cell? ⟨gb288,8,none⟩ = some (.bool false):=(blk_cell BK288.out 8).trans rfl;have hcz71_9 : w67.cell? ⟨gb288,9,none⟩ = some (.string (⟨#[]⟩ : ByteArray)):=(blk_cell BK288.out 9).trans rfl;have hfz71_0:=blk_frozen BK288.out 0;have hfz71_1:=blk_frozen BK288.out 1;have hfz71_2:=blk_frozen BK288.out 2;have hfz71_3:=blk_frozen BK288.out 3;have hfz71_4:=blk_frozen BK288.out 4;have hfz71_5:=blk_frozen BK288.out 5;have hfz71_6:=blk_frozen BK288.out 6;have hfz71_7:=blk_frozen BK288.out 7;have hfz71_8:=blk_frozen BK288.out 8;have hfz71_9:=blk_frozen BK288.out 9;have hnb72:=NB286_281.out;have hnc72:=NB281_286.out;have hnb73:=NB286_283.out;have hnc73:=NB283_286.out;have hcz74_0 : w67.cell? ⟨gb286,0,none⟩ = some (.int .i64 ((rd_T40 t274 x65_3).f0)):=(blk_cell BK286.out 0).trans rfl;have hcz74_1 : w67.cell? ⟨gb286,1,none⟩ = some (.int .i64 ((rd_T40 t274 x65_3).f1)):=(blk_cell BK286.out 1).trans rfl;have hcz74_2 : w67.cell? ⟨gb286,2,none⟩ = some (.int .i64 ((rd_T40 t274 x65_3).f2)):=(blk_cell BK286.out 2).trans rfl;have hfz74_0:=blk_frozen BK286.out 0;have hfz74_1:=blk_frozen BK286.out 1;have hfz74_2:=blk_frozen BK286.out 2)|(go_at_call 13;(with_reducible refine (almshouseref17_Mine.calls ((rd_T36 l0 x77_4).f0) ((rd_T36 l0 x77_4).f1) ((rd_T36 l0 x77_4).f2) ((rd_T36 l0 x77_4).f3.f0) ((rd_T36 l0 x77_4).f3.f1) ((rd_T36 l0 x77_4).f3.f2) ((rd_T36 l0 x77_4).f3.f3) ((rd_T36 l0 x77_4).f3.f4) ((rd_T36 l0 x77_4).f3.f5) ((rd_T36 l0 x77_4).f4) a2 a3 true _ A64.out).mono ?_);rintro e w75 ⟨rfl,hb⟩;have n0_:=Aside0.mk (Kd.R_below (by (with_reducible repeat (first|apply Kd.R_alloc|apply Kd.R_drewN|apply Kd.R_drew));exact (Kd.R_mono (Kd.R_far (p:=⟨gb288,9,none⟩) (Kd.R_far (p:=⟨gb288,8,none⟩) (Kd.R_far (p:=⟨gb288,7,none⟩) (Kd.R_far (p:=⟨gb288,6,none⟩) (Kd.R_far (p:=⟨gb288,5,none⟩) (Kd.R_far (p:=⟨gb288,4,none⟩) (Kd.R_far (p:=⟨gb288,3,none⟩) (Kd.R_far (p:=⟨gb288,2,none⟩) (Kd.R_far (p:=⟨gb288,1,none⟩) (Kd.R_far (p:=⟨gb288,0,none⟩) (Kd.R_types HO_63.out BK288.out (by decide)) (fun _ hk => hk.2) (.int .i64 ((rd_T36 l0 x77_4).f0))) (fun _ hk => hk.2) (.int .i64 ((rd_T36 l0 x77_4).f1))) (fun _ hk => hk.2) (.bool ((rd_T36 l0 x77_4).f2))) (fun _ hk => hk.2) (.int .i64 ((rd_T36 l0 x77_4).f3.f0))) (fun _ hk => hk.2) (.int .i64 ((rd_T36 l0 x77_4).f3.f1))) (fun _ hk => hk.2) (.int .i64 ((rd_T36 l0 x77_4).f3.f2))) (fun _ hk => hk.2) (.int .i64 ((rd_T36 l0 x77_4).f3.f3))) (fun _ hk => hk.2) (.int .i64 ((rd_T36 l0 x77_4).f3.f4))) (fun _ hk => hk.2) (.bool ((rd_T36 l0 x77_4).f3.f5))) (fun _ hk => hk.2) (.string ((rd_T36 l0 x77_4).f4))) (fun _ h_ => h_.1))) hb);have n1_:=Aside0.mk (Kd.R_below (by (with_reducible repeat (first|apply Kd.R_alloc|apply Kd.R_drewN|apply Kd.R_drew));exact (Kd.R_mono (Kd.R_far (p:=⟨gb288,9,none⟩) (Kd.R_far (p:=⟨gb288,8,none⟩) (Kd.R_far (p:=⟨gb288,7,none⟩) (Kd.R_far (p:=⟨gb288,6,none⟩) (Kd.R_far (p:=⟨gb288,5,none⟩) (Kd.R_far (p:=⟨gb288,4,none⟩) (Kd.R_far (p:=⟨gb288,3,none⟩) (Kd.R_far (p:=⟨gb288,2,none⟩) (Kd.R_far (p:=⟨gb288,1,none⟩) (Kd.R_far (p:=⟨gb288,0,none⟩) (Kd.R_types HO_282000.out BK288.out (by decide)) (fun _ hk => hk.2) (.int .i64 ((rd_T36 l0 x77_4).f0))) (fun _ hk => hk.2) (.int .i64 ((rd_T36 l0 x77_4).f1))) (fun _ hk => hk.2) (.bool ((rd_T36 l0 x77_4).f2))) (fun _ hk => hk.2) (.int .i64 ((rd_T36 l0 x77_4).f3.f0))) (fun _ hk => hk.2) (.int .i64 ((rd_T36 l0 x77_4).f3.f1))) (fun _ hk => hk.2) (.int .i64 ((rd_T36 l0 x77_4).f3.f2))) (fun _ hk => hk.2) (.int .i64 ((rd_T36 l0 x77_4).f3.f3))) (fun _ hk => hk.2) (.int .i64 ((rd_T36 l0 x77_4).f3.f4))) (fun _ hk => hk.2) (.bool ((rd_T36 l0 x77_4).f3.f5))) (fun _ hk => hk.2) (.string ((rd_T36 l0 x77_4).f4))) (fun _ h_ => h_.1))) hb);have n2_:=Aside0.mk (Kd.R_below (by (with_reducible repeat (first|apply Kd.R_alloc|apply Kd.R_drewN|apply Kd.R_drew));exact (Kd.R_mono (Kd.R_far (p:=⟨gb288,9,none⟩) (Kd.R_far (p:=⟨gb288,8,none⟩) (Kd.R_far (p:=⟨gb288,7,none⟩) (Kd.R_far (p:=⟨gb288,6,none⟩) (Kd.R_far (p:=⟨gb288,5,none⟩) (Kd.R_far (p:=⟨gb288,4,none⟩) (Kd.R_far (p:=⟨gb288,3,none⟩) (Kd.R_far (p:=⟨gb288,2,none⟩) (Kd.R_far (p:=⟨gb288,1,none⟩) (Kd.R_far (p:=⟨gb288,0,none⟩) (Kd.R_types HO_282001.out BK288.out (by decide)) (fun _ hk => hk.2) (.int .i64 ((rd_T36 l0 x77_4).f0))) (fun _ hk => hk.2) (.int .i64 ((rd_T36 l0 x77_4).f1))) (fun _ hk => hk.2) (.bool ((rd_T36 l0 x77_4).f2))) (fun _ hk => hk.2) (.int .i64 ((rd_T36 l0 x77_4).f3.f0))) (fun _ hk => hk.2) (.int .i64 ((rd_T36 l0 x77_4).f3.f1))) (fun _ hk => hk.2) (.int .i64 ((rd_T36 l0 x77_4).f3.f2))) (fun _ hk => hk.2) (.int .i64 ((rd_T36 l0 x77_4).f3.f3))) (fun _ hk => hk.2) (.int .i64 ((rd_T36 l0 x77_4).f3.f4))) (fun _ hk => hk.2) (.bool ((rd_T36 l0 x77_4).f3.f5))) (fun _ hk => hk.2) (.string ((rd_T36 l0 x77_4).f4))) (fun _ h_ => h_.1))) hb);have n3_:=Aside0.mk (blk_below (g:=gb281) (o:=.cells #[.slice (some ad285) t274.length co15,.slice Ao17 t277.length co17,.int .i64 t280] 28 (0,0)) (by (with_reducible repeat (first|refine blk_drewN ?_ _|refine blk_drew ?_|refine blk_alloc ?_ _));refine blk_far ?_ NB281_288.out _;(with_reducible repeat (first|refine blk_drewN ?_ _|refine blk_drew ?_|refine blk_alloc ?_ _));refine blk_far ?_ NB281_288.out _;(with_reducible repeat (first|refine blk_drewN ?_ _|refine blk_drew ?_|refine blk_alloc ?_ _));refine blk_far ?_ NB281_288.out _;(with_reducible repeat (first|refine blk_drewN ?_ _|refine blk_drew ?_|refine blk_alloc ?_ _));refine blk_far ?_ NB281_288.out _;(with_reducible repeat (first|refine blk_drewN ?_ _|refine blk_drew ?_|refine blk_alloc ?_ _));refine blk_far ?_ NB281_288.out _;(with_reducible repeat (first|refine blk_drewN ?_ _|refine blk_drew ?_|refine blk_alloc ?_ _));refine blk_far ?_ NB281_288.out _;(with_reducible repeat (first|refine blk_drewN ?_ _|refine blk_drew ?_|refine blk_alloc ?_ _));refine blk_far ?_ NB281_288.out _;(with_reducible repeat (first|refine blk_drewN ?_ _|refine blk_drew ?_|refine blk_alloc ?_ _));refine blk_far ?_ NB281_288.out _;(with_reducible repeat (first|refine blk_drewN ?_ _|refine blk_drew ?_|refine blk_alloc ?_ _));refine blk_far ?_ NB281_288.out _;(with_reducible repeat (first|refine blk_drewN ?_ _|refine blk_drew ?_|refine blk_alloc ?_ _));refine blk_far ?_ NB281_288.out _;(with_reducible repeat (first|refine blk_drewN ?_ _|refine blk_drew ?_|refine blk_alloc ?_ _));exact BK281.out) hb);have n4_:=Aside0.mk (blk_below (g:=gb283) (o:=.cells #[.int .i64 ((rd_T36 l0 x35_1).f0),.int .i64 ((rd_T36 l0 x35_1).f1),.bool ((rd_T36 l0 x35_1).f2),.int .i64 ((rd_T36 l0 x35_1).f3.f0),.int .i64 ((rd_T36 l0 x35_1).f3.f1),.int .i64 ((rd_T36 l0 x35_1).f3.f2),.int .i64 ((rd_T36 l0 x35_1).f3.f3),.int .i64 ((rd_T36 l0 x35_1).f3.f4),.bool ((rd_T36 l0 x35_1).f3.f5),.string ((rd_T36 l0 x35_1).f4)] 36 (0,0)) (by (with_reducible repeat (first|refine blk_drewN ?_ _|refine blk_drew ?_|refine blk_alloc ?_ _));refine blk_far ?_ NB283_288.out _;(with_reducible repeat (first|refine blk_drewN ?_ _|refine blk_drew ?_|refine blk_alloc ?_ _));refine blk_far ?_ NB283_288.out _;(with_reducible repeat (first|refine blk_drewN ?_ _|refine blk_drew ?_|refine blk_alloc ?_ _));refine blk_far ?_ NB283_288.out _;(with_reducible repeat (first|refine blk_drewN ?_ _|refine blk_drew ?_|refine blk_alloc ?_ _));refine blk_far ?_ NB283_288.out _;(with_reducible repeat (first|refine blk_drewN ?_ _|refine blk_drew ?_|refine blk_alloc ?_ _));refine blk_far ?_ NB283_288.out _;(with_reducible repeat (first|refine blk_drewN ?_ _|refine blk_drew ?_|refine blk_alloc ?_ _));refine blk_far ?_ NB283_288.out _;(with_reducible repeat (first|refine blk_drewN ?_ _|refine blk_drew ?_|refine blk_alloc ?_ _));refine blk_far ?_ NB283_288.out _;(with_reducible repeat (first|refine blk_drewN ?_ _|refine blk_drew ?_|refine blk_alloc ?_ _));refine blk_far ?_ NB283_288.out _;(with_reducible repeat (first|refine blk_drewN ?_ _|refine blk_drew ?_|refine blk_alloc ?_ _));refine blk_far ?_ NB283_288.out _;(with_reducible repeat (first|refine blk_drewN ?_ _|refine blk_drew ?_|refine blk_alloc ?_ _));refine blk_far ?_ NB283_288.out _;(with_reducible repeat (first|refine blk_drewN ?_ _|refine blk_drew ?_|refine blk_alloc ?_ _));exact BK283.out) hb);have n5_:=Aside0.mk (blk_below (g:=gb286) (o:=.cells #[.int .i64 ((rd_T40 t274 x65_3).f0),.int .i64 ((rd_T40 t274 x65_3).f1),.int .i64 ((rd_T40 t274 x65_3).f2)] 40 (0,0)) (by (with_reducible repeat (first|refine blk_drewN ?_ _|refine blk_drew ?_|refine blk_alloc ?_ _));refine blk_far ?_ NB286_288.out _;(with_reducible repeat (first|refine blk_drewN ?_ _|refine blk_drew ?_|refine blk_alloc ?_ _));refine blk_far ?_ NB286_288.out _;(with_reducible repeat (first|refine blk_drewN ?_ _|refine blk_drew ?_|refine blk_alloc ?_ _));refine blk_far ?_ NB286_288.out _;(with_reducible repeat (first|refine blk_drewN ?_ _|refine blk_drew ?_|refine blk_alloc ?_ _));refine blk_far ?_ NB286_288.out _;(with_reducible repeat (first|refine blk_drewN ?_ _|refine blk_drew ?_|refine blk_alloc ?_ _));refine blk_far ?_ NB286_288.out _;(with_reducible repeat (first|refine blk_drewN ?_ _|refine blk_drew ?_|refine blk_alloc ?_ _));refine blk_far ?_ NB286_288.out _;(with_reducible repeat (first|refine blk_drewN ?_ _|refine blk_drew ?_|refine blk_alloc ?_ _));refine blk_far ?_ NB286_288.out _;(with_reducible repeat (first|refine blk_drewN ?_ _|refine blk_drew ?_|refine blk_alloc ?_ _));refine blk_far ?_ NB286_288.out _;(with_reducible repeat (first|refine blk_drewN ?_ _|refine blk_drew ?_|refine blk_alloc ?_ _));refine blk_far ?_ NB286_288.out _;(with_reducible repeat (first|refine blk_drewN ?_ _|refine blk_drew ?_|refine blk_alloc ?_ _));refine blk_far ?_ NB286_288.out _;(with_reducible repeat (first|refine blk_drewN ?_ _|refine blk_drew ?_|refine blk_alloc ?_ _));exact BK286.out) hb);have n6_:=Aside0.mk (blk_below (g:=gb288) (o:=.cells #[.int .i64 ((rd_T36 l0 x77_4).f0),.int .i64 ((rd_T36 l0 x77_4).f1),.bool ((rd_T36 l0 x77_4).f2),.int .i64 ((rd_T36 l0 x77_4).f3.f0),.int .i64 ((rd_T36 l0 x77_4).f3.f1),.int .i64 ((rd_T36 l0 x77_4).f3.f2),.int .i64 ((rd_T36 l0 x77_4).f3.f3),.int .i64 ((rd_T36 l0 x77_4).f3.f4),.bool ((rd_T36 l0 x77_4).f3.f5),.string ((rd_T36 l0 x77_4).f4)] 36 (0,0)) (by (with_reducible repeat (first|refine blk_drewN ?_ _|refine blk_drew ?_|refine blk_alloc ?_ _));refine blk_put (cs:=#[.int .i64 ((rd_T36 l0 x77_4).f0),.int .i64 ((rd_T36 l0 x77_4).f1),.bool ((rd_T36 l0 x77_4).f2),.int .i64 ((rd_T36 l0 x77_4).f3.f0),.int .i64 ((rd_T36 l0 x77_4).f3.f1),.int .i64 ((rd_T36 l0 x77_4).f3.f2),.int .i64 ((rd_T36 l0 x77_4).f3.f3),.int .i64 ((rd_T36 l0 x77_4).f3.f4),.bool ((rd_T36 l0 x77_4).f3.f5),.string (⟨#[]⟩ : ByteArray)]) ?_ 9 _ rfl;(with_reducible repeat (first|refine blk_drewN ?_ _|refine blk_drew ?_|refine blk_alloc ?_ _));refine blk_put (cs:=#[.int .i64 ((rd_T36 l0 x77_4).f0),.int .i64 ((rd_T36 l0 x77_4).f1),.bool ((rd_T36 l0 x77_4).f2),.int .i64 ((rd_T36 l0 x77_4).f3.f0),.int .i64 ((rd_T36 l0 x77_4).f3.f1),.int .i64 ((rd_T36 l0 x77_4).f3.f2),.int .i64 ((rd_T36 l0 x77_4).f3.f3),.int .i64 ((rd_T36 l0 x77_4).f3.f4),.bool false,.string (⟨#[]⟩ : ByteArray)]) ?_ 8 _ rfl;(with_reducible repeat (first|refine blk_drewN ?_ _|refine blk_drew ?_|refine blk_alloc ?_ _));refine blk_put (cs:=#[.int .i64 ((rd_T36 l0 x77_4).f0),.int .i64 ((rd_T36 l0 x77_4).f1),.bool ((rd_T36 l0 x77_4).f2),.int .i64 ((rd_T36 l0 x77_4).f3.f0),.int .i64 ((rd_T36 l0 x77_4).f3.f1),.int .i64 ((rd_T36 l0 x77_4).f3.f2),.int .i64 ((rd_T36 l0 x77_4).f3.f3),.int .i64 0,.bool false,.string (⟨#[]⟩ : ByteArray)]) ?_ 7 _ rfl;(with_reducible repeat (first|refine blk_drewN ?_ _|refine blk_drew ?_|refine blk_alloc ?_ _));refine blk_put (cs:=#[.int .i64 ((rd_T36 l0 x77_4).f0),.int .i64 ((rd_T36 l0 x77_4).f1),.bool ((rd_T36 l0 x77_4).f2),.int .i64 ((rd_T36 l0 x77_4).f3.f0),.int .i64 ((rd_T36 l0 x77_4).f3.f1),.int .i64 ((rd_T36 l0 x77_4).f3.f2),.int .i64 0,.int .i64 0,.bool false,.string (⟨#[]⟩ : ByteArray)]) ?_ 6 _ rfl;(with_reducible repeat (first|refine blk_drewN ?_ _|refine blk_drew ?_|refine blk_alloc ?_ _));refine blk_put (cs:=#[.int .i64 ((rd_T36 l0 x77_4).f0),.int .i64 ((rd_T36 l0 x77_4).f1),.bool ((rd_T36 l0 x77_4).f2),.int .i64 ((rd_T36 l0 x77_4).f3.f0),.int .i64 ((rd_T36 l0 x77_4).f3.f1),.int .i64 0,.int .i64 0,.int .i64 0,.bool false,.string (⟨#[]⟩ : ByteArray)]) ?_ 5 _ rfl;(with_reducible repeat (first|refine blk_drewN ?_ _|refine blk_drew ?_|refine blk_alloc ?_ _));refine blk_put (cs:=#[.int .i64 ((rd_T36 l0 x77_4).f0),.int .i64 ((rd_T36 l0 x77_4).f1),.bool ((rd_T36 l0 x77_4).f2),.int .i64 ((rd_T36 l0 x77_4).f3.f0),.int .i64 0,.int .i64 0,.int .i64 0,.int .i64 0,.bool false,.string (⟨#[]⟩ : ByteArray)]) ?_ 4 _ rfl;(with_reducible repeat (first|refine blk_drewN ?_ _|refine blk_drew ?_|refine blk_alloc ?_ _));refine blk_put (cs:=#[.int .i64 ((rd_T36 l0 x77_4).f0),.int .i64 ((rd_T36 l0 x77_4).f1),.bool ((rd_T36 l0 x77_4).f2),.int .i64 0,.int .i64 0,.int .i64 0,.int .i64 0,.int .i64 0,.bool false,.string (⟨#[]⟩ : ByteArray)]) ?_ 3 _ rfl;(with_reducible repeat (first|refine blk_drewN ?_ _|refine blk_drew ?_|refine blk_alloc ?_ _));refine blk_put (cs:=#[.int .i64 ((rd_T36 l0 x77_4).f0),.int .i64 ((rd_T36 l0 x77_4).f1),.bool false,.int .i64 0,.int .i64 0,.int .i64 0,.int .i64 0,.int .i64 0,.bool false,.string (⟨#[]⟩ : ByteArray)]) ?_ 2 _ rfl;(with_reducible repeat (first|refine blk_drewN ?_ _|refine blk_drew ?_|refine blk_alloc ?_ _));refine blk_put (cs:=#[.int .i64 ((rd_T36 l0 x77_4).f0),.int .i64 0,.bool false,.int .i64 0,.int .i64 0,.int .i64 0,.int .i64 0,.int .i64 0,.bool false,.string (⟨#[]⟩ : ByteArray)]) ?_ 1 _ rfl;(with_reducible repeat (first|refine blk_drewN ?_ _|refine blk_drew ?_|refine blk_alloc ?_ _));refine blk_put (cs:=#[.int .i64 0,.int .i64 0,.bool false,.int .i64 0,.int .i64 0,.int .i64 0,.int .i64 0,.int .i64 0,.bool false,.string (⟨#[]⟩ : ByteArray)]) ?_ 0 _ rfl;(with_reducible repeat (first|refine blk_drewN ?_ _|refine blk_drew ?_|refine blk_alloc ?_ _));exact BK288.out) hb);have n7_:=Aside0.mk (below_step (by repeat (first|(with_reducible first|exact HB.out|apply below_alloc|apply pw_below_drewN|apply below_drew1|refine below_set ?_ GE281.out|refine below_set ?_ GE283.out|refine below_set ?_ GE286.out|refine below_set ?_ GE288.out)|exact HB.out)) hb);clear HO_63;clear HO_282000;clear HO_282001;clear BK281;clear BK283;clear BK286;clear BK288;clear HB;have HO_63:=n0_;have HO_282000:=n1_;have HO_282001:=n2_;have BK281:=n3_;have BK283:=n4_;have BK286:=n5_;have BK288:=n6_;have HB:=n7_;clear n0_ n1_ n2_ n3_ n4_ n5_ n6_ n7_;(try clear hb);(try clear hb2);(try clear hk);(try clear hi);have hcz76_0 : w75.cell? ⟨gb288,0,none⟩ = some (.int .i64 ((rd_T36 l0 x77_4).f0)):=(blk_cell BK288.out 0).trans rfl;have hcz76_1 : w75.cell? ⟨gb288,1,none⟩ = some (.int .i64 ((rd_T36 l0 x77_4).f1)):=(blk_cell BK288.out 1).trans rfl;have hcz76_2 : w75.cell? ⟨gb288,2,none⟩ = some (.bool ((rd_T36 l0 x77_4).f2)):=(blk_cell BK288.out 2).trans rfl;have hcz76_3 : w75.cell? ⟨gb288,3,none⟩ = some (.int .i64 ((rd_T36 l0 x77_4).f3.f0)):=(blk_cell BK288.out 3).trans rfl;have hcz76_4 : w75.cell? ⟨gb288,4,none⟩ = some (.int .i64 ((rd_T36 l0 x77_4).f3.f1)):=(blk_cell BK288.out 4).trans rfl;have hcz76_5 : w75.cell? ⟨gb288,5,none⟩ = some (.int .i64 ((rd_T36 l0 x77_4).f3.f2)):=(blk_cell BK288.out 5).trans rfl;have hcz76_6 : w75.cell? ⟨gb288,6,none⟩ = some (.int .i64 ((rd_T36 l0 x77_4).f3.f3)):=(blk_cell BK288.out 6).trans rfl;have hcz76_7 : w75.cell? ⟨gb288,7,none⟩ = some (.int .i64 ((rd_T36 l0 x77_4).f3.f4)):=(blk_cell BK288.out 7).trans rfl;have hcz76_8 : w75.cell? ⟨gb288,8,none⟩ = some (.bool ((rd_T36 l0 x77_4).f3.f5)):=(blk_cell BK288.out 8).trans rfl;have hcz76_9 : w75.cell? ⟨gb288,9,none⟩ = some (.string ((rd_T36 l0 x77_4).f4)):=(blk_cell BK288.out 9).trans rfl;have hfz76_0:=blk_frozen BK288.out 0;have hfz76_1:=blk_frozen BK288.out 1;have hfz76_2:=blk_frozen BK288.out 2;have hfz76_3:=blk_frozen BK288.out 3;have hfz76_4:=blk_frozen BK288.out 4;have hfz76_5:=blk_frozen BK288.out 5;have hfz76_6:=blk_frozen BK288.out 6;have hfz76_7:=blk_frozen BK288.out 7;have hfz76_8:=blk_frozen BK288.out 8;have hfz76_9:=blk_frozen BK288.out 9;have hcz77_0 : w75.cell? ⟨gb286,0,none⟩ = some (.int .i64 ((rd_T40 t274 x65_3).f0)):=(blk_cell BK286.out 0).trans rfl;have hcz77_1 : w75.cell? ⟨gb286,1,none⟩ = some (.int .i64 ((rd_T40 t274 x65_3).f1)):=(blk_cell BK286.out 1).trans rfl;have hcz77_2 : w75.cell? ⟨gb286,2,none⟩ = some (.int .i64 ((rd_T40 t274 x65_3).f2)):=(blk_cell BK286.out 2).trans rfl;have hfz77_0:=blk_frozen BK286.out 0;have hfz77_1:=blk_frozen BK286.out 1;have hfz77_2:=blk_frozen BK286.out 2;have hnb78:=NB283_281.out;have hnc78:=NB281_283.out;have hcz79_0 : w75.cell? ⟨gb283,0,none⟩ = some (.int .i64 ((rd_T36 l0 x35_1).f0)):=(blk_cell BK283.out 0).trans rfl;have hcz79_1 : w75.cell? ⟨gb283,1,none⟩ = some (.int .i64 ((rd_T36 l0 x35_1).f1)):=(blk_cell BK283.out 1).trans rfl;have hcz79_2 : w75.cell? ⟨gb283,2,none⟩ = some (.bool ((rd_T36 l0 x35_1).f2)):=(blk_cell BK283.out 2).trans rfl;have hcz79_3 : w75.cell? ⟨gb283,3,none⟩ = some (.int .i64 ((rd_T36 l0 x35_1).f3.f0)):=(blk_cell BK283.out 3).trans rfl;have hcz79_4 : w75.cell? ⟨gb283,4,none⟩ = some (.int .i64 ((rd_T36 l0 x35_1).f3.f1)):=(blk_cell BK283.out 4).trans rfl;have hcz79_5 : w75.cell? ⟨gb283,5,none⟩ = some (.int .i64 ((rd_T36 l0 x35_1).f3.f2)):=(blk_cell BK283.out 5).trans rfl;have hcz79_6 : w75.cell? ⟨gb283,6,none⟩ = some (.int .i64 ((rd_T36 l0 x35_1).f3.f3)):=(blk_cell BK283.out 6).trans rfl;have hcz79_7 : w75.cell? ⟨gb283,7,none⟩ = some (.int .i64 ((rd_T36 l0 x35_1).f3.f4)):=(blk_cell BK283.out 7).trans rfl;have hcz79_8 : w75.cell? ⟨gb283,8,none⟩ = some (.bool ((rd_T36 l0 x35_1).f3.f5)):=(blk_cell BK283.out 8).trans rfl;have hcz79_9 : w75.cell? ⟨gb283,9,none⟩ = some (.string ((rd_T36 l0 x35_1).f4)):=(blk_cell BK283.out 9).trans rfl;have hfz79_0:=blk_frozen BK283.out 0;have hfz79_1:=blk_frozen BK283.out 1;have hfz79_2:=blk_frozen BK283.out 2;have hfz79_3:=blk_frozen BK283.out 3;have hfz79_4:=blk_frozen BK283.out 4;have hfz79_5:=blk_frozen BK283.out 5;have hfz79_6:=blk_frozen BK283.out 6;have hfz79_7:=blk_frozen BK283.out 7;have hfz79_8:=blk_frozen BK283.out 8;have hfz79_9:=blk_frozen BK283.out 9))
                           go_roundg k4
                           case measure => have:=HK1.out;have:=HJ20.out;have:=HK3.out;have:=HK4.out;omega
                           case rel => exact ⟨(decide (((rd_T36 l0 x77_4).f3.f3) ≥ ((rd_T36 l0 x35_1).f3.f3))),(wrap64 (x77_4 + 1)),(by first|rfl|(simp;done)|(simp [*];done)),(by first|rfl|(simp;done)|(simp [*];done)),H',⟨by have:=HK1.out;have:=HJ20.out;have:=HK3.out;have:=HK4.out;omega⟩,⟨by (with_reducible repeat (first|apply Kd.R_alloc|apply Kd.R_drewN|apply Kd.R_drew));exact HO_63.out⟩,⟨by (with_reducible repeat (first|apply Kd.R_alloc|apply Kd.R_drewN|apply Kd.R_drew));exact HO_282000.out⟩,⟨by (with_reducible repeat (first|apply Kd.R_alloc|apply Kd.R_drewN|apply Kd.R_drew));exact HO_282001.out⟩,⟨by (with_reducible repeat (first|refine blk_drewN ?_ _|refine blk_drew ?_|refine blk_alloc ?_ _));exact BK281.out⟩,⟨by (with_reducible repeat (first|refine blk_drewN ?_ _|refine blk_drew ?_|refine blk_alloc ?_ _));exact BK283.out⟩,⟨by (with_reducible repeat (first|refine blk_drewN ?_ _|refine blk_drew ?_|refine blk_alloc ?_ _));exact BK286.out⟩,⟨by repeat (first|(with_reducible first|exact HB.out|apply below_alloc|apply pw_below_drewN|apply below_drew1|refine below_set ?_ GE281.out|refine below_set ?_ GE283.out|refine below_set ?_ GE286.out|refine below_set ?_ GE288.out)|exact HB.out)⟩⟩
                          ·rw [if_neg c66] at H
                           have c66b0 : (((rd_T36 l0 x77_4).f3.f2) == ((rd_T40 t274 x65_3).f0)) = false:=beq_eq_false_iff_ne.mpr c66
                           have c66b1 : (((rd_T36 l0 x77_4).f3.f2) != ((rd_T40 t274 x65_3).f0)) = true:=bne_iff_ne.mpr c66
                           have H' := Aside0.mk H
                           clear H
                           have p287 : 0 ≤ (x77_4 : Int):=of_decide_eq_true (by first|(with_reducible assumption)|assumption)
                           have q287 : x77_4 < (l0.length : Int):=of_decide_eq_true (by first|(with_reducible assumption)|assumption)
                           obtain ⟨ad287,e287,hx287_0,hx287_1,hx287_2,hx287_3,hx287_4,hx287_5,hx287_6,hx287_7,hx287_8,hx287_9⟩:=at_T36 HR0.out x77_4 p287 q287
                           obtain rfl : ad282 = ad287 := (by injection e287)
                           replace hx287_0:=(HB.out.cell (World.block_lt_of_cell? w _ hx287_0)).trans hx287_0
                           replace hx287_1:=(HB.out.cell (World.block_lt_of_cell? w _ hx287_1)).trans hx287_1
                           replace hx287_2:=(HB.out.cell (World.block_lt_of_cell? w _ hx287_2)).trans hx287_2
                           replace hx287_3:=(HB.out.cell (World.block_lt_of_cell? w _ hx287_3)).trans hx287_3
                           replace hx287_4:=(HB.out.cell (World.block_lt_of_cell? w _ hx287_4)).trans hx287_4
                           replace hx287_5:=(HB.out.cell (World.block_lt_of_cell? w _ hx287_5)).trans hx287_5
                           replace hx287_6:=(HB.out.cell (World.block_lt_of_cell? w _ hx287_6)).trans hx287_6
                           replace hx287_7:=(HB.out.cell (World.block_lt_of_cell? w _ hx287_7)).trans hx287_7
                           replace hx287_8:=(HB.out.cell (World.block_lt_of_cell? w _ hx287_8)).trans hx287_8
                           replace hx287_9:=(HB.out.cell (World.block_lt_of_cell? w _ hx287_9)).trans hx287_9
                           replace p287 := eq_true p287
                           replace q287 := eq_true q287
                           go_wp2_with (first|((with_reducible refine gate_dst (N:=18) rfl ?_);refine box_event ?hg (N:=18) ?hd (cs:=#[.int .i64 0,.int .i64 0,.bool false,.int .i64 0,.int .i64 0,.int .i64 0,.int .i64 0,.int .i64 0,.bool false,.string (⟨#[]⟩ : ByteArray)]) (t:=36) ?hr ?_;(case hd => rfl);(case hg => rfl);(case hr => first|(go_simp;done)|(go_simp;rfl));intro gb288 hg w80 hbox hb;have n0_:=Aside0.mk (Kd.R_below (by (with_reducible repeat (first|apply Kd.R_alloc|apply Kd.R_drewN|apply Kd.R_drew));exact HO_63.out) hb);have n1_:=Aside0.mk (Kd.R_below (by (with_reducible repeat (first|apply Kd.R_alloc|apply Kd.R_drewN|apply Kd.R_drew));exact HO_282000.out) hb);have n2_:=Aside0.mk (Kd.R_below (by (with_reducible repeat (first|apply Kd.R_alloc|apply Kd.R_drewN|apply Kd.R_drew));exact HO_282001.out) hb);have n3_:=Aside0.mk (blk_below (g:=gb281) (o:=.cells #[.slice (some ad285) t274.length co15,.slice Ao17 t277.length co17,.int .i64 t280] 28 (0,0)) (by (with_reducible repeat (first|refine blk_drewN ?_ _|refine blk_drew ?_|refine blk_alloc ?_ _));exact BK281.out) hb);have n4_:=Aside0.mk (blk_below (g:=gb283) (o:=.cells #[.int .i64 ((rd_T36 l0 x35_1).f0),.int .i64 ((rd_T36 l0 x35_1).f1),.bool ((rd_T36 l0 x35_1).f2),.int .i64 ((rd_T36 l0 x35_1).f3.f0),.int .i64 ((rd_T36 l0 x35_1).f3.f1),.int .i64 ((rd_T36 l0 x35_1).f3.f2),.int .i64 ((rd_T36 l0 x35_1).f3.f3),.int .i64 ((rd_T36 l0 x35_1).f3.f4),.bool ((rd_T36 l0 x35_1).f3.f5),.string ((rd_T36 l0 x35_1).f4)] 36 (0,0)) (by (with_reducible repeat (first|refine blk_drewN ?_ _|refine blk_drew ?_|refine blk_alloc ?_ _));exact BK283.out) hb);have n5_:=Aside0.mk (blk_below (g:=gb286) (o:=.cells #[.int .i64 ((rd_T40 t274 x65_3).f0),.int .i64 ((rd_T40 t274 x65_3).f1),.int .i64 ((rd_T40 t274 x65_3).f2)] 40 (0,0)) (by (with_reducible repeat (first|refine blk_drewN ?_ _|refine blk_drew ?_|refine blk_alloc ?_ _));exact BK286.out) hb);have n6_:=Aside0.mk (below_step (by repeat (first|(with_reducible first|exact HB.out|apply below_alloc|apply pw_below_drewN|apply below_drew1|refine below_set ?_ GE281.out|refine below_set ?_ GE283.out|refine below_set ?_ GE286.out)|exact HB.out)) hb);have n7_:=Aside0.mk (hbox);have n8_:=Aside0.mk ((by rw [hg];exact (below_size (by repeat (first|(with_reducible first|exact HB.out|apply below_alloc|apply pw_below_drewN|apply below_drew1|refine below_set ?_ GE281.out|refine below_set ?_ GE283.out|refine below_set ?_ GE286.out)|exact HB.out))) : w.heap.size ≤ gb288));have n9_:=Aside0.mk ((by rw [hg];exact (below_size (by repeat (first|(with_reducible first|exact HB.out|apply below_alloc|apply pw_below_drewN|apply below_drew1|refine below_set ?_ GE281.out|refine below_set ?_ GE283.out|refine below_set ?_ GE286.out)|exact HB.out))) : w.heap.size ≤ gb288));have n10_:=Aside0.mk ((by rw [hg];exact Nat.ne_of_lt (blk_lt (g:=gb281) (o:=.cells #[.slice (some ad285) t274.length co15,.slice Ao17 t277.length co17,.int .i64 t280] 28 (0,0)) (by (with_reducible repeat (first|refine blk_drewN ?_ _|refine blk_drew ?_|refine blk_alloc ?_ _));exact BK281.out)) : gb281 ≠ gb288));have n11_:=Aside0.mk ((by rw [hg];exact Nat.ne_of_gt (blk_lt (g:=gb281) (o:=.cells #[.slice (some ad285) t274.length co15,.slice Ao17 t277.length co17,.int .i64 t280] 28 (0,0)) (by (with_reducible repeat (first|refine blk_drewN ?_ _|refine blk_drew ?_|refine blk_alloc ?_ _));exact BK281.out)) : gb288 ≠ gb281));have n12_:=Aside0.mk ((by rw [hg];exact Nat.ne_of_lt (blk_lt (g:=gb283) (o:=.cells #[.int .i64 ((rd_T36 l0 x35_1).f0),.int .i64 ((rd_T36 l0 x35_1).f1),.bool ((rd_T36 l0 x35_1).f2),.int .i64 ((rd_T36 l0 x35_1).f3.f0),.int .i64 ((rd_T36 l0 x35_1).f3.f1),.int .i64 ((rd_T36 l0 x35_1).f3.f2),.int .i64 ((rd_T36 l0 x35_1).f3.f3),.int .i64 ((rd_T36 l0 x35_1).f3.f4),.bool ((rd_T36 l0 x35_1).f3.f5),.string ((rd_T36 l0 x35_1).f4)] 36 (0,0)) (by (with_reducible repeat (first|refine blk_drewN ?_ _|refine blk_drew ?_|refine blk_alloc ?_ _));exact BK283.out)) : gb283 ≠ gb288));have n13_:=Aside0.mk ((by rw [hg];exact Nat.ne_of_gt (blk_lt (g:=gb283) (o:=.cells #[.int .i64 ((rd_T36 l0 x35_1).f0),.int .i64 ((rd_T36 l0 x35_1).f1),.bool ((rd_T36 l0 x35_1).f2),.int .i64 ((rd_T36 l0 x35_1).f3.f0),.int .i64 ((rd_T36 l0 x35_1).f3.f1),.int .i64 ((rd_T36 l0 x35_1).f3.f2),.int .i64 ((rd_T36 l0 x35_1).f3.f3),.int .i64 ((rd_T36 l0 x35_1).f3.f4),.bool ((rd_T36 l0 x35_1).f3.f5),.string ((rd_T36 l0 x35_1).f4)] 36 (0,0)) (by (with_reducible repeat (first|refine blk_drewN ?_ _|refine blk_drew ?_|refine blk_alloc ?_ _));exact BK283.out)) : gb288 ≠ gb283));have n14_:=Aside0.mk ((by rw [hg];exact Nat.ne_of_lt (blk_lt (g:=gb286) (o:=.cells #[.int .i64 ((rd_T40 t274 x65_3).f0),.int .i64 ((rd_T40 t274 x65_3).f1),.int .i64 ((rd_T40 t274 x65_3).f2)] 40 (0,0)) (by (with_reducible repeat (first|refine blk_drewN ?_ _|refine blk_drew ?_|refine blk_alloc ?_ _));exact BK286.out)) : gb286 ≠ gb288));have n15_:=Aside0.mk ((by rw [hg];exact Nat.ne_of_gt (blk_lt (g:=gb286) (o:=.cells #[.int .i64 ((rd_T40 t274 x65_3).f0),.int .i64 ((rd_T40 t274 x65_3).f1),.int .i64 ((rd_T40 t274 x65_3).f2)] 40 (0,0)) (by (with_reducible repeat (first|refine blk_drewN ?_ _|refine blk_drew ?_|refine blk_alloc ?_ _));exact BK286.out)) : gb288 ≠ gb286));clear HO_63;clear HO_282000;clear HO_282001;clear BK281;clear BK283;clear BK286;clear HB;have HO_63:=n0_;have HO_282000:=n1_;have HO_282001:=n2_;have BK281:=n3_;have BK283:=n4_;have BK286:=n5_;have HB:=n6_;have BK288:=n7_;have GW288:=n8_;have GE288:=n9_;have NB281_288:=n10_;have NB288_281:=n11_;have NB283_288:=n12_;have NB288_283:=n13_;have NB286_288:=n14_;have NB288_286:=n15_;clear n0_ n1_ n2_ n3_ n4_ n5_ n6_ n7_ n8_ n9_ n10_ n11_ n12_ n13_ n14_ n15_;clear hb hbox hg;have hnb81:=NB288_281.out;have hnc81:=NB281_288.out;have hnb82:=NB288_283.out;have hnc82:=NB283_288.out;have hnb83:=NB288_286.out;have hnc83:=NB286_288.out;have hcz84_0 : w80.cell? ⟨gb288,0,none⟩ = some (.int .i64 0):=(blk_cell BK288.out 0).trans rfl;have hcz84_1 : w80.cell? ⟨gb288,1,none⟩ = some (.int .i64 0):=(blk_cell BK288.out 1).trans rfl;have hcz84_2 : w80.cell? ⟨gb288,2,none⟩ = some (.bool false):=(blk_cell BK288.out 2).trans rfl;have hcz84_3 : w80.cell? ⟨gb288,3,none⟩ = some (.int .i64 0):=(blk_cell BK288.out 3).trans rfl;have hcz84_4 : w80.cell? ⟨gb288,4,none⟩ = some (.int .i64 0):=(blk_cell BK288.out 4).trans rfl;have hcz84_5 : w80.cell? ⟨gb288,5,none⟩ = some (.int .i64 0):=(blk_cell BK288.out 5).trans rfl;have hcz84_6 : w80.cell? ⟨gb288,6,none⟩ = some (.int .i64 0):=(blk_cell BK288.out 6).trans rfl;have hcz84_7 : w80.cell? ⟨gb288,7,none⟩ = some (.int .i64 0):=(blk_cell BK288.out 7).trans rfl;have hcz84_8 : w80.cell? ⟨gb288,8,none⟩ = some (.bool false):=(blk_cell BK288.out 8).trans rfl;have hcz84_9 : w80.cell? ⟨gb288,9,none⟩ = some (.string (⟨#[]⟩ : ByteArray)):=(blk_cell BK288.out 9).trans rfl;have hfz84_0:=blk_frozen BK288.out 0;have hfz84_1:=blk_frozen BK288.out 1;have hfz84_2:=blk_frozen BK288.out 2;have hfz84_3:=blk_frozen BK288.out 3;have hfz84_4:=blk_frozen BK288.out 4;have hfz84_5:=blk_frozen BK288.out 5;have hfz84_6:=blk_frozen BK288.out 6;have hfz84_7:=blk_frozen BK288.out 7;have hfz84_8:=blk_frozen BK288.out 8;have hfz84_9:=blk_frozen BK288.out 9;have hnb85:=NB286_281.out;have hnc85:=NB281_286.out;have hnb86:=NB286_283.out;have hnc86:=NB283_286.out;have hcz87_0 : w80.cell? ⟨gb286,0,none⟩ = some (.int .i64 ((rd_T40 t274 x65_3).f0)):=(blk_cell BK286.out 0).trans rfl;have hcz87_1 : w80.cell? ⟨gb286,1,none⟩ = some (.int .i64 ((rd_T40 t274 x65_3).f1)):=(blk_cell BK286.out 1).trans rfl;have hcz87_2 : w80.cell? ⟨gb286,2,none⟩ = some (.int .i64 ((rd_T40 t274 x65_3).f2)):=(blk_cell BK286.out 2).trans rfl;have hfz87_0:=blk_frozen BK286.out 0;have hfz87_1:=blk_frozen BK286.out 1;have hfz87_2:=blk_frozen BK286.out 2)|(go_at_call 13;(with_reducible refine (almshouseref17_Mine.calls ((rd_T36 l0 x77_4).f0) ((rd_T36 l0 x77_4).f1) ((rd_T36 l0 x77_4).f2) ((rd_T36 l0 x77_4).f3.f0) ((rd_T36 l0 x77_4).f3.f1) ((rd_T36 l0 x77_4).f3.f2) ((rd_T36 l0 x77_4).f3.f3) ((rd_T36 l0 x77_4).f3.f4) ((rd_T36 l0 x77_4).f3.f5) ((rd_T36 l0 x77_4).f4) a2 a3 true _ A64.out).mono ?_);rintro e w88 ⟨rfl,hb⟩;have n0_:=Aside0.mk (Kd.R_below (by (with_reducible repeat (first|apply Kd.R_alloc|apply Kd.R_drewN|apply Kd.R_drew));exact (Kd.R_mono (Kd.R_far (p:=⟨gb288,9,none⟩) (Kd.R_far (p:=⟨gb288,8,none⟩) (Kd.R_far (p:=⟨gb288,7,none⟩) (Kd.R_far (p:=⟨gb288,6,none⟩) (Kd.R_far (p:=⟨gb288,5,none⟩) (Kd.R_far (p:=⟨gb288,4,none⟩) (Kd.R_far (p:=⟨gb288,3,none⟩) (Kd.R_far (p:=⟨gb288,2,none⟩) (Kd.R_far (p:=⟨gb288,1,none⟩) (Kd.R_far (p:=⟨gb288,0,none⟩) (Kd.R_types HO_63.out BK288.out (by decide)) (fun _ hk => hk.2) (.int .i64 ((rd_T36 l0 x77_4).f0))) (fun _ hk => hk.2) (.int .i64 ((rd_T36 l0 x77_4).f1))) (fun _ hk => hk.2) (.bool ((rd_T36 l0 x77_4).f2))) (fun _ hk => hk.2) (.int .i64 ((rd_T36 l0 x77_4).f3.f0))) (fun _ hk => hk.2) (.int .i64 ((rd_T36 l0 x77_4).f3.f1))) (fun _ hk => hk.2) (.int .i64 ((rd_T36 l0 x77_4).f3.f2))) (fun _ hk => hk.2) (.int .i64 ((rd_T36 l0 x77_4).f3.f3))) (fun _ hk => hk.2) (.int .i64 ((rd_T36 l0 x77_4).f3.f4))) (fun _ hk => hk.2) (.bool ((rd_T36 l0 x77_4).f3.f5))) (fun _ hk => hk.2) (.string ((rd_T36 l0 x77_4).f4))) (fun _ h_ => h_.1))) hb);have n1_:=Aside0.mk (Kd.R_below (by (with_reducible repeat (first|apply Kd.R_alloc|apply Kd.R_drewN|apply Kd.R_drew));exact (Kd.R_mono (Kd.R_far (p:=⟨gb288,9,none⟩) (Kd.R_far (p:=⟨gb288,8,none⟩) (Kd.R_far (p:=⟨gb288,7,none⟩) (Kd.R_far (p:=⟨gb288,6,none⟩) (Kd.R_far (p:=⟨gb288,5,none⟩) (Kd.R_far (p:=⟨gb288,4,none⟩) (Kd.R_far (p:=⟨gb288,3,none⟩) (Kd.R_far (p:=⟨gb288,2,none⟩) (Kd.R_far (p:=⟨gb288,1,none⟩) (Kd.R_far (p:=⟨gb288,0,none⟩) (Kd.R_types HO_282000.out BK288.out (by decide)) (fun _ hk => hk.2) (.int .i64 ((rd_T36 l0 x77_4).f0))) (fun _ hk => hk.2) (.int .i64 ((rd_T36 l0 x77_4).f1))) (fun _ hk => hk.2) (.bool ((rd_T36 l0 x77_4).f2))) (fun _ hk => hk.2) (.int .i64 ((rd_T36 l0 x77_4).f3.f0))) (fun _ hk => hk.2) (.int .i64 ((rd_T36 l0 x77_4).f3.f1))) (fun _ hk => hk.2) (.int .i64 ((rd_T36 l0 x77_4).f3.f2))) (fun _ hk => hk.2) (.int .i64 ((rd_T36 l0 x77_4).f3.f3))) (fun _ hk => hk.2) (.int .i64 ((rd_T36 l0 x77_4).f3.f4))) (fun _ hk => hk.2) (.bool ((rd_T36 l0 x77_4).f3.f5))) (fun _ hk => hk.2) (.string ((rd_T36 l0 x77_4).f4))) (fun _ h_ => h_.1))) hb);have n2_:=Aside0.mk (Kd.R_below (by (with_reducible repeat (first|apply Kd.R_alloc|apply Kd.R_drewN|apply Kd.R_drew));exact (Kd.R_mono (Kd.R_far (p:=⟨gb288,9,none⟩) (Kd.R_far (p:=⟨gb288,8,none⟩) (Kd.R_far (p:=⟨gb288,7,none⟩) (Kd.R_far (p:=⟨gb288,6,none⟩) (Kd.R_far (p:=⟨gb288,5,none⟩) (Kd.R_far (p:=⟨gb288,4,none⟩) (Kd.R_far (p:=⟨gb288,3,none⟩) (Kd.R_far (p:=⟨gb288,2,none⟩) (Kd.R_far (p:=⟨gb288,1,none⟩) (Kd.R_far (p:=⟨gb288,0,none⟩) (Kd.R_types HO_282001.out BK288.out (by decide)) (fun _ hk => hk.2) (.int .i64 ((rd_T36 l0 x77_4).f0))) (fun _ hk => hk.2) (.int .i64 ((rd_T36 l0 x77_4).f1))) (fun _ hk => hk.2) (.bool ((rd_T36 l0 x77_4).f2))) (fun _ hk => hk.2) (.int .i64 ((rd_T36 l0 x77_4).f3.f0))) (fun _ hk => hk.2) (.int .i64 ((rd_T36 l0 x77_4).f3.f1))) (fun _ hk => hk.2) (.int .i64 ((rd_T36 l0 x77_4).f3.f2))) (fun _ hk => hk.2) (.int .i64 ((rd_T36 l0 x77_4).f3.f3))) (fun _ hk => hk.2) (.int .i64 ((rd_T36 l0 x77_4).f3.f4))) (fun _ hk => hk.2) (.bool ((rd_T36 l0 x77_4).f3.f5))) (fun _ hk => hk.2) (.string ((rd_T36 l0 x77_4).f4))) (fun _ h_ => h_.1))) hb);have n3_:=Aside0.mk (blk_below (g:=gb281) (o:=.cells #[.slice (some ad285) t274.length co15,.slice Ao17 t277.length co17,.int .i64 t280] 28 (0,0)) (by (with_reducible repeat (first|refine blk_drewN ?_ _|refine blk_drew ?_|refine blk_alloc ?_ _));refine blk_far ?_ NB281_288.out _;(with_reducible repeat (first|refine blk_drewN ?_ _|refine blk_drew ?_|refine blk_alloc ?_ _));refine blk_far ?_ NB281_288.out _;(with_reducible repeat (first|refine blk_drewN ?_ _|refine blk_drew ?_|refine blk_alloc ?_ _));refine blk_far ?_ NB281_288.out _;(with_reducible repeat (first|refine blk_drewN ?_ _|refine blk_drew ?_|refine blk_alloc ?_ _));refine blk_far ?_ NB281_288.out _;(with_reducible repeat (first|refine blk_drewN ?_ _|refine blk_drew ?_|refine blk_alloc ?_ _));refine blk_far ?_ NB281_288.out _;(with_reducible repeat (first|refine blk_drewN ?_ _|refine blk_drew ?_|refine blk_alloc ?_ _));refine blk_far ?_ NB281_288.out _;(with_reducible repeat (first|refine blk_drewN ?_ _|refine blk_drew ?_|refine blk_alloc ?_ _));refine blk_far ?_ NB281_288.out _;(with_reducible repeat (first|refine blk_drewN ?_ _|refine blk_drew ?_|refine blk_alloc ?_ _));refine blk_far ?_ NB281_288.out _;(with_reducible repeat (first|refine blk_drewN ?_ _|refine blk_drew ?_|refine blk_alloc ?_ _));refine blk_far ?_ NB281_288.out _;(with_reducible repeat (first|refine blk_drewN ?_ _|refine blk_drew ?_|refine blk_alloc ?_ _));refine blk_far ?_ NB281_288.out _;(with_reducible repeat (first|refine blk_drewN ?_ _|refine blk_drew ?_|refine blk_alloc ?_ _));exact BK281.out) hb);have n4_:=Aside0.mk (blk_below (g:=gb283) (o:=.cells #[.int .i64 ((rd_T36 l0 x35_1).f0),.int .i64 ((rd_T36 l0 x35_1).f1),.bool ((rd_T36 l0 x35_1).f2),.int .i64 ((rd_T36 l0 x35_1).f3.f0),.int .i64 ((rd_T36 l0 x35_1).f3.f1),.int .i64 ((rd_T36 l0 x35_1).f3.f2),.int .i64 ((rd_T36 l0 x35_1).f3.f3),.int .i64 ((rd_T36 l0 x35_1).f3.f4),.bool ((rd_T36 l0 x35_1).f3.f5),.string ((rd_T36 l0 x35_1).f4)] 36 (0,0)) (by (with_reducible repeat (first|refine blk_drewN ?_ _|refine blk_drew ?_|refine blk_alloc ?_ _));refine blk_far ?_ NB283_288.out _;(with_reducible repeat (first|refine blk_drewN ?_ _|refine blk_drew ?_|refine blk_alloc ?_ _));refine blk_far ?_ NB283_288.out _;(with_reducible repeat (first|refine blk_drewN ?_ _|refine blk_drew ?_|refine blk_alloc ?_ _));refine blk_far ?_ NB283_288.out _;(with_reducible repeat (first|refine blk_drewN ?_ _|refine blk_drew ?_|refine blk_alloc ?_ _));refine blk_far ?_ NB283_288.out _;(with_reducible repeat (first|refine blk_drewN ?_ _|refine blk_drew ?_|refine blk_alloc ?_ _));refine blk_far ?_ NB283_288.out _;(with_reducible repeat (first|refine blk_drewN ?_ _|refine blk_drew ?_|refine blk_alloc ?_ _));refine blk_far ?_ NB283_288.out _;(with_reducible repeat (first|refine blk_drewN ?_ _|refine blk_drew ?_|refine blk_alloc ?_ _));refine blk_far ?_ NB283_288.out _;(with_reducible repeat (first|refine blk_drewN ?_ _|refine blk_drew ?_|refine blk_alloc ?_ _));refine blk_far ?_ NB283_288.out _;(with_reducible repeat (first|refine blk_drewN ?_ _|refine blk_drew ?_|refine blk_alloc ?_ _));refine blk_far ?_ NB283_288.out _;(with_reducible repeat (first|refine blk_drewN ?_ _|refine blk_drew ?_|refine blk_alloc ?_ _));refine blk_far ?_ NB283_288.out _;(with_reducible repeat (first|refine blk_drewN ?_ _|refine blk_drew ?_|refine blk_alloc ?_ _));exact BK283.out) hb);have n5_:=Aside0.mk (blk_below (g:=gb286) (o:=.cells #[.int .i64 ((rd_T40 t274 x65_3).f0),.int .i64 ((rd_T40 t274 x65_3).f1),.int .i64 ((rd_T40 t274 x65_3).f2)] 40 (0,0)) (by (with_reducible repeat (first|refine blk_drewN ?_ _|refine blk_drew ?_|refine blk_alloc ?_ _));refine blk_far ?_ NB286_288.out _;(with_reducible repeat (first|refine blk_drewN ?_ _|refine blk_drew ?_|refine blk_alloc ?_ _));refine blk_far ?_ NB286_288.out _;(with_reducible repeat (first|refine blk_drewN ?_ _|refine blk_drew ?_|refine blk_alloc ?_ _));refine blk_far ?_ NB286_288.out _;(with_reducible repeat (first|refine blk_drewN ?_ _|refine blk_drew ?_|refine blk_alloc ?_ _));refine blk_far ?_ NB286_288.out _;(with_reducible repeat (first|refine blk_drewN ?_ _|refine blk_drew ?_|refine blk_alloc ?_ _));refine blk_far ?_ NB286_288.out _;(with_reducible repeat (first|refine blk_drewN ?_ _|refine blk_drew ?_|refine blk_alloc ?_ _));refine blk_far ?_ NB286_288.out _;(with_reducible repeat (first|refine blk_drewN ?_ _|refine blk_drew ?_|refine blk_alloc ?_ _));refine blk_far ?_ NB286_288.out _;(with_reducible repeat (first|refine blk_drewN ?_ _|refine blk_drew ?_|refine blk_alloc ?_ _));refine blk_far ?_ NB286_288.out _;(with_reducible repeat (first|refine blk_drewN ?_ _|refine blk_drew ?_|refine blk_alloc ?_ _));refine blk_far ?_ NB286_288.out _;(with_reducible repeat (first|refine blk_drewN ?_ _|refine blk_drew ?_|refine blk_alloc ?_ _));refine blk_far ?_ NB286_288.out _;(with_reducible repeat (first|refine blk_drewN ?_ _|refine blk_drew ?_|refine blk_alloc ?_ _));exact BK286.out) hb);have n6_:=Aside0.mk (blk_below (g:=gb288) (o:=.cells #[.int .i64 ((rd_T36 l0 x77_4).f0),.int .i64 ((rd_T36 l0 x77_4).f1),.bool ((rd_T36 l0 x77_4).f2),.int .i64 ((rd_T36 l0 x77_4).f3.f0),.int .i64 ((rd_T36 l0 x77_4).f3.f1),.int .i64 ((rd_T36 l0 x77_4).f3.f2),.int .i64 ((rd_T36 l0 x77_4).f3.f3),.int .i64 ((rd_T36 l0 x77_4).f3.f4),.bool ((rd_T36 l0 x77_4).f3.f5),.string ((rd_T36 l0 x77_4).f4)] 36 (0,0)) (by (with_reducible repeat (first|refine blk_drewN ?_ _|refine blk_drew ?_|refine blk_alloc ?_ _));refine blk_put (cs:=#[.int .i64 ((rd_T36 l0 x77_4).f0),.int .i64 ((rd_T36 l0 x77_4).f1),.bool ((rd_T36 l0 x77_4).f2),.int .i64 ((rd_T36 l0 x77_4).f3.f0),.int .i64 ((rd_T36 l0 x77_4).f3.f1),.int .i64 ((rd_T36 l0 x77_4).f3.f2),.int .i64 ((rd_T36 l0 x77_4).f3.f3),.int .i64 ((rd_T36 l0 x77_4).f3.f4),.bool ((rd_T36 l0 x77_4).f3.f5),.string (⟨#[]⟩ : ByteArray)]) ?_ 9 _ rfl;(with_reducible repeat (first|refine blk_drewN ?_ _|refine blk_drew ?_|refine blk_alloc ?_ _));refine blk_put (cs:=#[.int .i64 ((rd_T36 l0 x77_4).f0),.int .i64 ((rd_T36 l0 x77_4).f1),.bool ((rd_T36 l0 x77_4).f2),.int .i64 ((rd_T36 l0 x77_4).f3.f0),.int .i64 ((rd_T36 l0 x77_4).f3.f1),.int .i64 ((rd_T36 l0 x77_4).f3.f2),.int .i64 ((rd_T36 l0 x77_4).f3.f3),.int .i64 ((rd_T36 l0 x77_4).f3.f4),.bool false,.string (⟨#[]⟩ : ByteArray)]) ?_ 8 _ rfl;(with_reducible repeat (first|refine blk_drewN ?_ _|refine blk_drew ?_|refine blk_alloc ?_ _));refine blk_put (cs:=#[.int .i64 ((rd_T36 l0 x77_4).f0),.int .i64 ((rd_T36 l0 x77_4).f1),.bool ((rd_T36 l0 x77_4).f2),.int .i64 ((rd_T36 l0 x77_4).f3.f0),.int .i64 ((rd_T36 l0 x77_4).f3.f1),.int .i64 ((rd_T36 l0 x77_4).f3.f2),.int .i64 ((rd_T36 l0 x77_4).f3.f3),.int .i64 0,.bool false,.string (⟨#[]⟩ : ByteArray)]) ?_ 7 _ rfl;(with_reducible repeat (first|refine blk_drewN ?_ _|refine blk_drew ?_|refine blk_alloc ?_ _));refine blk_put (cs:=#[.int .i64 ((rd_T36 l0 x77_4).f0),.int .i64 ((rd_T36 l0 x77_4).f1),.bool ((rd_T36 l0 x77_4).f2),.int .i64 ((rd_T36 l0 x77_4).f3.f0),.int .i64 ((rd_T36 l0 x77_4).f3.f1),.int .i64 ((rd_T36 l0 x77_4).f3.f2),.int .i64 0,.int .i64 0,.bool false,.string (⟨#[]⟩ : ByteArray)]) ?_ 6 _ rfl;(with_reducible repeat (first|refine blk_drewN ?_ _|refine blk_drew ?_|refine blk_alloc ?_ _));refine blk_put (cs:=#[.int .i64 ((rd_T36 l0 x77_4).f0),.int .i64 ((rd_T36 l0 x77_4).f1),.bool ((rd_T36 l0 x77_4).f2),.int .i64 ((rd_T36 l0 x77_4).f3.f0),.int .i64 ((rd_T36 l0 x77_4).f3.f1),.int .i64 0,.int .i64 0,.int .i64 0,.bool false,.string (⟨#[]⟩ : ByteArray)]) ?_ 5 _ rfl;(with_reducible repeat (first|refine blk_drewN ?_ _|refine blk_drew ?_|refine blk_alloc ?_ _));refine blk_put (cs:=#[.int .i64 ((rd_T36 l0 x77_4).f0),.int .i64 ((rd_T36 l0 x77_4).f1),.bool ((rd_T36 l0 x77_4).f2),.int .i64 ((rd_T36 l0 x77_4).f3.f0),.int .i64 0,.int .i64 0,.int .i64 0,.int .i64 0,.bool false,.string (⟨#[]⟩ : ByteArray)]) ?_ 4 _ rfl;(with_reducible repeat (first|refine blk_drewN ?_ _|refine blk_drew ?_|refine blk_alloc ?_ _));refine blk_put (cs:=#[.int .i64 ((rd_T36 l0 x77_4).f0),.int .i64 ((rd_T36 l0 x77_4).f1),.bool ((rd_T36 l0 x77_4).f2),.int .i64 0,.int .i64 0,.int .i64 0,.int .i64 0,.int .i64 0,.bool false,.string (⟨#[]⟩ : ByteArray)]) ?_ 3 _ rfl;(with_reducible repeat (first|refine blk_drewN ?_ _|refine blk_drew ?_|refine blk_alloc ?_ _));refine blk_put (cs:=#[.int .i64 ((rd_T36 l0 x77_4).f0),.int .i64 ((rd_T36 l0 x77_4).f1),.bool false,.int .i64 0,.int .i64 0,.int .i64 0,.int .i64 0,.int .i64 0,.bool false,.string (⟨#[]⟩ : ByteArray)]) ?_ 2 _ rfl;(with_reducible repeat (first|refine blk_drewN ?_ _|refine blk_drew ?_|refine blk_alloc ?_ _));refine blk_put (cs:=#[.int .i64 ((rd_T36 l0 x77_4).f0),.int .i64 0,.bool false,.int .i64 0,.int .i64 0,.int .i64 0,.int .i64 0,.int .i64 0,.bool false,.string (⟨#[]⟩ : ByteArray)]) ?_ 1 _ rfl;(with_reducible repeat (first|refine blk_drewN ?_ _|refine blk_drew ?_|refine blk_alloc ?_ _));refine blk_put (cs:=#[.int .i64 0,.int .i64 0,.bool false,.int .i64 0,.int .i64 0,.int .i64 0,.int .i64 0,.int .i64 0,.bool false,.string (⟨#[]⟩ : ByteArray)]) ?_ 0 _ rfl;(with_reducible repeat (first|refine blk_drewN ?_ _|refine blk_drew ?_|refine blk_alloc ?_ _));exact BK288.out) hb);have n7_:=Aside0.mk (below_step (by repeat (first|(with_reducible first|exact HB.out|apply below_alloc|apply pw_below_drewN|apply below_drew1|refine below_set ?_ GE281.out|refine below_set ?_ GE283.out|refine below_set ?_ GE286.out|refine below_set ?_ GE288.out)|exact HB.out)) hb);clear HO_63;clear HO_282000;clear HO_282001;clear BK281;clear BK283;clear BK286;clear BK288;clear HB;have HO_63:=n0_;have HO_282000:=n1_;have HO_282001:=n2_;have BK281:=n3_;have BK283:=n4_;have BK286:=n5_;have BK288:=n6_;have HB:=n7_;clear n0_ n1_ n2_ n3_ n4_ n5_ n6_ n7_;(try clear hb);(try clear hb2);(try clear hk);(try clear hi);have hcz89_0 : w88.cell? ⟨gb288,0,none⟩ = some (.int .i64 ((rd_T36 l0 x77_4).f0)):=(blk_cell BK288.out 0).trans rfl;have hcz89_1 : w88.cell? ⟨gb288,1,none⟩ = some (.int .i64 ((rd_T36 l0 x77_4).f1)):=(blk_cell BK288.out 1).trans rfl;have hcz89_2 : w88.cell? ⟨gb288,2,none⟩ = some (.bool ((rd_T36 l0 x77_4).f2)):=(blk_cell BK288.out 2).trans rfl;have hcz89_3 : w88.cell? ⟨gb288,3,none⟩ = some (.int .i64 ((rd_T36 l0 x77_4).f3.f0)):=(blk_cell BK288.out 3).trans rfl;have hcz89_4 : w88.cell? ⟨gb288,4,none⟩ = some (.int .i64 ((rd_T36 l0 x77_4).f3.f1)):=(blk_cell BK288.out 4).trans rfl;have hcz89_5 : w88.cell? ⟨gb288,5,none⟩ = some (.int .i64 ((rd_T36 l0 x77_4).f3.f2)):=(blk_cell BK288.out 5).trans rfl;have hcz89_6 : w88.cell? ⟨gb288,6,none⟩ = some (.int .i64 ((rd_T36 l0 x77_4).f3.f3)):=(blk_cell BK288.out 6).trans rfl;have hcz89_7 : w88.cell? ⟨gb288,7,none⟩ = some (.int .i64 ((rd_T36 l0 x77_4).f3.f4)):=(blk_cell BK288.out 7).trans rfl;have hcz89_8 : w88.cell? ⟨gb288,8,none⟩ = some (.bool ((rd_T36 l0 x77_4).f3.f5)):=(blk_cell BK288.out 8).trans rfl;have hcz89_9 : w88.cell? ⟨gb288,9,none⟩ = some (.string ((rd_T36 l0 x77_4).f4)):=(blk_cell BK288.out 9).trans rfl;have hfz89_0:=blk_frozen BK288.out 0;have hfz89_1:=blk_frozen BK288.out 1;have hfz89_2:=blk_frozen BK288.out 2;have hfz89_3:=blk_frozen BK288.out 3;have hfz89_4:=blk_frozen BK288.out 4;have hfz89_5:=blk_frozen BK288.out 5;have hfz89_6:=blk_frozen BK288.out 6;have hfz89_7:=blk_frozen BK288.out 7;have hfz89_8:=blk_frozen BK288.out 8;have hfz89_9:=blk_frozen BK288.out 9;have hcz90_0 : w88.cell? ⟨gb286,0,none⟩ = some (.int .i64 ((rd_T40 t274 x65_3).f0)):=(blk_cell BK286.out 0).trans rfl;have hcz90_1 : w88.cell? ⟨gb286,1,none⟩ = some (.int .i64 ((rd_T40 t274 x65_3).f1)):=(blk_cell BK286.out 1).trans rfl;have hcz90_2 : w88.cell? ⟨gb286,2,none⟩ = some (.int .i64 ((rd_T40 t274 x65_3).f2)):=(blk_cell BK286.out 2).trans rfl;have hfz90_0:=blk_frozen BK286.out 0;have hfz90_1:=blk_frozen BK286.out 1;have hfz90_2:=blk_frozen BK286.out 2))
                           go_roundg k4
                           case measure => have:=HK1.out;have:=HJ20.out;have:=HK3.out;have:=HK4.out;omega
                           case rel => exact ⟨(false),(wrap64 (x77_4 + 1)),(by first|rfl|(simp;done)|(simp [*];done)),(by first|rfl|(simp;done)|(simp [*];done)),H',⟨by have:=HK1.out;have:=HJ20.out;have:=HK3.out;have:=HK4.out;omega⟩,⟨by (with_reducible repeat (first|apply Kd.R_alloc|apply Kd.R_drewN|apply Kd.R_drew));exact HO_63.out⟩,⟨by (with_reducible repeat (first|apply Kd.R_alloc|apply Kd.R_drewN|apply Kd.R_drew));exact HO_282000.out⟩,⟨by (with_reducible repeat (first|apply Kd.R_alloc|apply Kd.R_drewN|apply Kd.R_drew));exact HO_282001.out⟩,⟨by (with_reducible repeat (first|refine blk_drewN ?_ _|refine blk_drew ?_|refine blk_alloc ?_ _));exact BK281.out⟩,⟨by (with_reducible repeat (first|refine blk_drewN ?_ _|refine blk_drew ?_|refine blk_alloc ?_ _));exact BK283.out⟩,⟨by (with_reducible repeat (first|refine blk_drewN ?_ _|refine blk_drew ?_|refine blk_alloc ?_ _));exact BK286.out⟩,⟨by repeat (first|(with_reducible first|exact HB.out|apply below_alloc|apply pw_below_drewN|apply below_drew1|refine below_set ?_ GE281.out|refine below_set ?_ GE283.out|refine below_set ?_ GE286.out|refine below_set ?_ GE288.out)|exact HB.out)⟩⟩
                         ·replace c65 := Bool.eq_false_iff.mpr c65
                          subst c65
                          have H1 : (almshouselaw17_HealKeeps.l2 k4 l0 a1 a2 a3 a4 false l0 (l0.length : Int) x35_1 t274 (t274.length : Int) x65_3 l0 (l0.length : Int) (wrap64 (x77_4 + 1)) t274 t277 t280 ((rd_T36 l0 x35_1).f0) ((rd_T36 l0 x35_1).f1) ((rd_T36 l0 x35_1).f2) ((rd_T36 l0 x35_1).f3.f0) ((rd_T36 l0 x35_1).f3.f1) ((rd_T36 l0 x35_1).f3.f2) ((rd_T36 l0 x35_1).f3.f3) ((rd_T36 l0 x35_1).f3.f4) ((rd_T36 l0 x35_1).f3.f5) ((rd_T36 l0 x35_1).f4) ((rd_T40 t274 x65_3).f0) ((rd_T40 t274 x65_3).f1) ((rd_T40 t274 x65_3).f2)) = some r:=by rw [if_neg (show ¬ (false = true) by decide)] at H;exact H
                          clear H
                          have H := H1
                          clear H1
                          have H' := Aside0.mk H
                          clear H
                          have p287 : 0 ≤ (x77_4 : Int):=of_decide_eq_true (by first|(with_reducible assumption)|assumption)
                          have q287 : x77_4 < (l0.length : Int):=of_decide_eq_true (by first|(with_reducible assumption)|assumption)
                          obtain ⟨ad287,e287,hx287_0,hx287_1,hx287_2,hx287_3,hx287_4,hx287_5,hx287_6,hx287_7,hx287_8,hx287_9⟩:=at_T36 HR0.out x77_4 p287 q287
                          obtain rfl : ad282 = ad287 := (by injection e287)
                          replace hx287_0:=(HB.out.cell (World.block_lt_of_cell? w _ hx287_0)).trans hx287_0
                          replace hx287_1:=(HB.out.cell (World.block_lt_of_cell? w _ hx287_1)).trans hx287_1
                          replace hx287_2:=(HB.out.cell (World.block_lt_of_cell? w _ hx287_2)).trans hx287_2
                          replace hx287_3:=(HB.out.cell (World.block_lt_of_cell? w _ hx287_3)).trans hx287_3
                          replace hx287_4:=(HB.out.cell (World.block_lt_of_cell? w _ hx287_4)).trans hx287_4
                          replace hx287_5:=(HB.out.cell (World.block_lt_of_cell? w _ hx287_5)).trans hx287_5
                          replace hx287_6:=(HB.out.cell (World.block_lt_of_cell? w _ hx287_6)).trans hx287_6
                          replace hx287_7:=(HB.out.cell (World.block_lt_of_cell? w _ hx287_7)).trans hx287_7
                          replace hx287_8:=(HB.out.cell (World.block_lt_of_cell? w _ hx287_8)).trans hx287_8
                          replace hx287_9:=(HB.out.cell (World.block_lt_of_cell? w _ hx287_9)).trans hx287_9
                          replace p287 := eq_true p287
                          replace q287 := eq_true q287
                          go_wp2_with (first|((with_reducible refine gate_dst (N:=18) rfl ?_);refine box_event ?hg (N:=18) ?hd (cs:=#[.int .i64 0,.int .i64 0,.bool false,.int .i64 0,.int .i64 0,.int .i64 0,.int .i64 0,.int .i64 0,.bool false,.string (⟨#[]⟩ : ByteArray)]) (t:=36) ?hr ?_;(case hd => rfl);(case hg => rfl);(case hr => first|(go_simp;done)|(go_simp;rfl));intro gb288 hg w91 hbox hb;have n0_:=Aside0.mk (Kd.R_below (by (with_reducible repeat (first|apply Kd.R_alloc|apply Kd.R_drewN|apply Kd.R_drew));exact HO_63.out) hb);have n1_:=Aside0.mk (Kd.R_below (by (with_reducible repeat (first|apply Kd.R_alloc|apply Kd.R_drewN|apply Kd.R_drew));exact HO_282000.out) hb);have n2_:=Aside0.mk (Kd.R_below (by (with_reducible repeat (first|apply Kd.R_alloc|apply Kd.R_drewN|apply Kd.R_drew));exact HO_282001.out) hb);have n3_:=Aside0.mk (blk_below (g:=gb281) (o:=.cells #[.slice (some ad285) t274.length co15,.slice Ao17 t277.length co17,.int .i64 t280] 28 (0,0)) (by (with_reducible repeat (first|refine blk_drewN ?_ _|refine blk_drew ?_|refine blk_alloc ?_ _));exact BK281.out) hb);have n4_:=Aside0.mk (blk_below (g:=gb283) (o:=.cells #[.int .i64 ((rd_T36 l0 x35_1).f0),.int .i64 ((rd_T36 l0 x35_1).f1),.bool ((rd_T36 l0 x35_1).f2),.int .i64 ((rd_T36 l0 x35_1).f3.f0),.int .i64 ((rd_T36 l0 x35_1).f3.f1),.int .i64 ((rd_T36 l0 x35_1).f3.f2),.int .i64 ((rd_T36 l0 x35_1).f3.f3),.int .i64 ((rd_T36 l0 x35_1).f3.f4),.bool ((rd_T36 l0 x35_1).f3.f5),.string ((rd_T36 l0 x35_1).f4)] 36 (0,0)) (by (with_reducible repeat (first|refine blk_drewN ?_ _|refine blk_drew ?_|refine blk_alloc ?_ _));exact BK283.out) hb);have n5_:=Aside0.mk (blk_below (g:=gb286) (o:=.cells #[.int .i64 ((rd_T40 t274 x65_3).f0),.int .i64 ((rd_T40 t274 x65_3).f1),.int .i64 ((rd_T40 t274 x65_3).f2)] 40 (0,0)) (by (with_reducible repeat (first|refine blk_drewN ?_ _|refine blk_drew ?_|refine blk_alloc ?_ _));exact BK286.out) hb);have n6_:=Aside0.mk (below_step (by repeat (first|(with_reducible first|exact HB.out|apply below_alloc|apply pw_below_drewN|apply below_drew1|refine below_set ?_ GE281.out|refine below_set ?_ GE283.out|refine below_set ?_ GE286.out)|exact HB.out)) hb);have n7_:=Aside0.mk (hbox);have n8_:=Aside0.mk ((by rw [hg];exact (below_size (by repeat (first|(with_reducible first|exact HB.out|apply below_alloc|apply pw_below_drewN|apply below_drew1|refine below_set ?_ GE281.out|refine below_set ?_ GE283.out|refine below_set ?_ GE286.out)|exact HB.out))) : w.heap.size ≤ gb288));have n9_:=Aside0.mk ((by rw [hg];exact (below_size (by repeat (first|(with_reducible first|exact HB.out|apply below_alloc|apply pw_below_drewN|apply below_drew1|refine below_set ?_ GE281.out|refine below_set ?_ GE283.out|refine below_set ?_ GE286.out)|exact HB.out))) : w.heap.size ≤ gb288));have n10_:=Aside0.mk ((by rw [hg];exact Nat.ne_of_lt (blk_lt (g:=gb281) (o:=.cells #[.slice (some ad285) t274.length co15,.slice Ao17 t277.length co17,.int .i64 t280] 28 (0,0)) (by (with_reducible repeat (first|refine blk_drewN ?_ _|refine blk_drew ?_|refine blk_alloc ?_ _));exact BK281.out)) : gb281 ≠ gb288));have n11_:=Aside0.mk ((by rw [hg];exact Nat.ne_of_gt (blk_lt (g:=gb281) (o:=.cells #[.slice (some ad285) t274.length co15,.slice Ao17 t277.length co17,.int .i64 t280] 28 (0,0)) (by (with_reducible repeat (first|refine blk_drewN ?_ _|refine blk_drew ?_|refine blk_alloc ?_ _));exact BK281.out)) : gb288 ≠ gb281));have n12_:=Aside0.mk ((by rw [hg];exact Nat.ne_of_lt (blk_lt (g:=gb283) (o:=.cells #[.int .i64 ((rd_T36 l0 x35_1).f0),.int .i64 ((rd_T36 l0 x35_1).f1),.bool ((rd_T36 l0 x35_1).f2),.int .i64 ((rd_T36 l0 x35_1).f3.f0),.int .i64 ((rd_T36 l0 x35_1).f3.f1),.int .i64 ((rd_T36 l0 x35_1).f3.f2),.int .i64 ((rd_T36 l0 x35_1).f3.f3),.int .i64 ((rd_T36 l0 x35_1).f3.f4),.bool ((rd_T36 l0 x35_1).f3.f5),.string ((rd_T36 l0 x35_1).f4)] 36 (0,0)) (by (with_reducible repeat (first|refine blk_drewN ?_ _|refine blk_drew ?_|refine blk_alloc ?_ _));exact BK283.out)) : gb283 ≠ gb288));have n13_:=Aside0.mk ((by rw [hg];exact Nat.ne_of_gt (blk_lt (g:=gb283) (o:=.cells #[.int .i64 ((rd_T36 l0 x35_1).f0),.int .i64 ((rd_T36 l0 x35_1).f1),.bool ((rd_T36 l0 x35_1).f2),.int .i64 ((rd_T36 l0 x35_1).f3.f0),.int .i64 ((rd_T36 l0 x35_1).f3.f1),.int .i64 ((rd_T36 l0 x35_1).f3.f2),.int .i64 ((rd_T36 l0 x35_1).f3.f3),.int .i64 ((rd_T36 l0 x35_1).f3.f4),.bool ((rd_T36 l0 x35_1).f3.f5),.string ((rd_T36 l0 x35_1).f4)] 36 (0,0)) (by (with_reducible repeat (first|refine blk_drewN ?_ _|refine blk_drew ?_|refine blk_alloc ?_ _));exact BK283.out)) : gb288 ≠ gb283));have n14_:=Aside0.mk ((by rw [hg];exact Nat.ne_of_lt (blk_lt (g:=gb286) (o:=.cells #[.int .i64 ((rd_T40 t274 x65_3).f0),.int .i64 ((rd_T40 t274 x65_3).f1),.int .i64 ((rd_T40 t274 x65_3).f2)] 40 (0,0)) (by (with_reducible repeat (first|refine blk_drewN ?_ _|refine blk_drew ?_|refine blk_alloc ?_ _));exact BK286.out)) : gb286 ≠ gb288));have n15_:=Aside0.mk ((by rw [hg];exact Nat.ne_of_gt (blk_lt (g:=gb286) (o:=.cells #[.int .i64 ((rd_T40 t274 x65_3).f0),.int .i64 ((rd_T40 t274 x65_3).f1),.int .i64 ((rd_T40 t274 x65_3).f2)] 40 (0,0)) (by (with_reducible repeat (first|refine blk_drewN ?_ _|refine blk_drew ?_|refine blk_alloc ?_ _));exact BK286.out)) : gb288 ≠ gb286));clear HO_63;clear HO_282000;clear HO_282001;clear BK281;clear BK283;clear BK286;clear HB;have HO_63:=n0_;have HO_282000:=n1_;have HO_282001:=n2_;have BK281:=n3_;have BK283:=n4_;have BK286:=n5_;have HB:=n6_;have BK288:=n7_;have GW288:=n8_;have GE288:=n9_;have NB281_288:=n10_;have NB288_281:=n11_;have NB283_288:=n12_;have NB288_283:=n13_;have NB286_288:=n14_;have NB288_286:=n15_;clear n0_ n1_ n2_ n3_ n4_ n5_ n6_ n7_ n8_ n9_ n10_ n11_ n12_ n13_ n14_ n15_;clear hb hbox hg;have hnb92:=NB288_281.out;have hnc92:=NB281_288.out;have hnb93:=NB288_283.out;have hnc93:=NB283_288.out;have hnb94:=NB288_286.out;have hnc94:=NB286_288.out;have hcz95_0 : w91.cell? ⟨gb288,0,none⟩ = some (.int .i64 0):=(blk_cell BK288.out 0).trans rfl;have hcz95_1 : w91.cell? ⟨gb288,1,none⟩ = some (.int .i64 0):=(blk_cell BK288.out 1).trans rfl;have hcz95_2 : w91.cell? ⟨gb288,2,none⟩ = some (.bool false):=(blk_cell BK288.out 2).trans rfl;have hcz95_3 : w91.cell? ⟨gb288,3,none⟩ = some (.int .i64 0):=(blk_cell BK288.out 3).trans rfl;have hcz95_4 : w91.cell? ⟨gb288,4,none⟩ = some (.int .i64 0):=(blk_cell BK288.out 4).trans rfl;have hcz95_5 : w91.cell? ⟨gb288,5,none⟩ = some (.int .i64 0):=(blk_cell BK288.out 5).trans rfl;have hcz95_6 : w91.cell? ⟨gb288,6,none⟩ = some (.int .i64 0):=(blk_cell BK288.out 6).trans rfl;have hcz95_7 : w91.cell? ⟨gb288,7,none⟩ = some (.int .i64 0):=(blk_cell BK288.out 7).trans rfl;have hcz95_8 : w91.cell? ⟨gb288,8,none⟩ = some (.bool false):=(blk_cell BK288.out 8).trans rfl;have hcz95_9 : w91.cell? ⟨gb288,9,none⟩ = some (.string (⟨#[]⟩ : ByteArray)):=(blk_cell BK288.out 9).trans rfl;have hfz95_0:=blk_frozen BK288.out 0;have hfz95_1:=blk_frozen BK288.out 1;have hfz95_2:=blk_frozen BK288.out 2;have hfz95_3:=blk_frozen BK288.out 3;have hfz95_4:=blk_frozen BK288.out 4;have hfz95_5:=blk_frozen BK288.out 5;have hfz95_6:=blk_frozen BK288.out 6;have hfz95_7:=blk_frozen BK288.out 7;have hfz95_8:=blk_frozen BK288.out 8;have hfz95_9:=blk_frozen BK288.out 9;have hnb96:=NB286_281.out;have hnc96:=NB281_286.out;have hnb97:=NB286_283.out;have hnc97:=NB283_286.out;have hcz98_0 : w91.cell? ⟨gb286,0,none⟩ = some (.int .i64 ((rd_T40 t274 x65_3).f0)):=(blk_cell BK286.out 0).trans rfl;have hcz98_1 : w91.cell? ⟨gb286,1,none⟩ = some (.int .i64 ((rd_T40 t274 x65_3).f1)):=(blk_cell BK286.out 1).trans rfl;have hcz98_2 : w91.cell? ⟨gb286,2,none⟩ = some (.int .i64 ((rd_T40 t274 x65_3).f2)):=(blk_cell BK286.out 2).trans rfl;have hfz98_0:=blk_frozen BK286.out 0;have hfz98_1:=blk_frozen BK286.out 1;have hfz98_2:=blk_frozen BK286.out 2)|(go_at_call 13;(with_reducible refine (almshouseref17_Mine.calls ((rd_T36 l0 x77_4).f0) ((rd_T36 l0 x77_4).f1) ((rd_T36 l0 x77_4).f2) ((rd_T36 l0 x77_4).f3.f0) ((rd_T36 l0 x77_4).f3.f1) ((rd_T36 l0 x77_4).f3.f2) ((rd_T36 l0 x77_4).f3.f3) ((rd_T36 l0 x77_4).f3.f4) ((rd_T36 l0 x77_4).f3.f5) ((rd_T36 l0 x77_4).f4) a2 a3 false _ A64.out).mono ?_);rintro e w99 ⟨rfl,hb⟩;have n0_:=Aside0.mk (Kd.R_below (by (with_reducible repeat (first|apply Kd.R_alloc|apply Kd.R_drewN|apply Kd.R_drew));exact (Kd.R_mono (Kd.R_far (p:=⟨gb288,9,none⟩) (Kd.R_far (p:=⟨gb288,8,none⟩) (Kd.R_far (p:=⟨gb288,7,none⟩) (Kd.R_far (p:=⟨gb288,6,none⟩) (Kd.R_far (p:=⟨gb288,5,none⟩) (Kd.R_far (p:=⟨gb288,4,none⟩) (Kd.R_far (p:=⟨gb288,3,none⟩) (Kd.R_far (p:=⟨gb288,2,none⟩) (Kd.R_far (p:=⟨gb288,1,none⟩) (Kd.R_far (p:=⟨gb288,0,none⟩) (Kd.R_types HO_63.out BK288.out (by decide)) (fun _ hk => hk.2) (.int .i64 ((rd_T36 l0 x77_4).f0))) (fun _ hk => hk.2) (.int .i64 ((rd_T36 l0 x77_4).f1))) (fun _ hk => hk.2) (.bool ((rd_T36 l0 x77_4).f2))) (fun _ hk => hk.2) (.int .i64 ((rd_T36 l0 x77_4).f3.f0))) (fun _ hk => hk.2) (.int .i64 ((rd_T36 l0 x77_4).f3.f1))) (fun _ hk => hk.2) (.int .i64 ((rd_T36 l0 x77_4).f3.f2))) (fun _ hk => hk.2) (.int .i64 ((rd_T36 l0 x77_4).f3.f3))) (fun _ hk => hk.2) (.int .i64 ((rd_T36 l0 x77_4).f3.f4))) (fun _ hk => hk.2) (.bool ((rd_T36 l0 x77_4).f3.f5))) (fun _ hk => hk.2) (.string ((rd_T36 l0 x77_4).f4))) (fun _ h_ => h_.1))) hb);have n1_:=Aside0.mk (Kd.R_below (by (with_reducible repeat (first|apply Kd.R_alloc|apply Kd.R_drewN|apply Kd.R_drew));exact (Kd.R_mono (Kd.R_far (p:=⟨gb288,9,none⟩) (Kd.R_far (p:=⟨gb288,8,none⟩) (Kd.R_far (p:=⟨gb288,7,none⟩) (Kd.R_far (p:=⟨gb288,6,none⟩) (Kd.R_far (p:=⟨gb288,5,none⟩) (Kd.R_far (p:=⟨gb288,4,none⟩) (Kd.R_far (p:=⟨gb288,3,none⟩) (Kd.R_far (p:=⟨gb288,2,none⟩) (Kd.R_far (p:=⟨gb288,1,none⟩) (Kd.R_far (p:=⟨gb288,0,none⟩) (Kd.R_types HO_282000.out BK288.out (by decide)) (fun _ hk => hk.2) (.int .i64 ((rd_T36 l0 x77_4).f0))) (fun _ hk => hk.2) (.int .i64 ((rd_T36 l0 x77_4).f1))) (fun _ hk => hk.2) (.bool ((rd_T36 l0 x77_4).f2))) (fun _ hk => hk.2) (.int .i64 ((rd_T36 l0 x77_4).f3.f0))) (fun _ hk => hk.2) (.int .i64 ((rd_T36 l0 x77_4).f3.f1))) (fun _ hk => hk.2) (.int .i64 ((rd_T36 l0 x77_4).f3.f2))) (fun _ hk => hk.2) (.int .i64 ((rd_T36 l0 x77_4).f3.f3))) (fun _ hk => hk.2) (.int .i64 ((rd_T36 l0 x77_4).f3.f4))) (fun _ hk => hk.2) (.bool ((rd_T36 l0 x77_4).f3.f5))) (fun _ hk => hk.2) (.string ((rd_T36 l0 x77_4).f4))) (fun _ h_ => h_.1))) hb);have n2_:=Aside0.mk (Kd.R_below (by (with_reducible repeat (first|apply Kd.R_alloc|apply Kd.R_drewN|apply Kd.R_drew));exact (Kd.R_mono (Kd.R_far (p:=⟨gb288,9,none⟩) (Kd.R_far (p:=⟨gb288,8,none⟩) (Kd.R_far (p:=⟨gb288,7,none⟩) (Kd.R_far (p:=⟨gb288,6,none⟩) (Kd.R_far (p:=⟨gb288,5,none⟩) (Kd.R_far (p:=⟨gb288,4,none⟩) (Kd.R_far (p:=⟨gb288,3,none⟩) (Kd.R_far (p:=⟨gb288,2,none⟩) (Kd.R_far (p:=⟨gb288,1,none⟩) (Kd.R_far (p:=⟨gb288,0,none⟩) (Kd.R_types HO_282001.out BK288.out (by decide)) (fun _ hk => hk.2) (.int .i64 ((rd_T36 l0 x77_4).f0))) (fun _ hk => hk.2) (.int .i64 ((rd_T36 l0 x77_4).f1))) (fun _ hk => hk.2) (.bool ((rd_T36 l0 x77_4).f2))) (fun _ hk => hk.2) (.int .i64 ((rd_T36 l0 x77_4).f3.f0))) (fun _ hk => hk.2) (.int .i64 ((rd_T36 l0 x77_4).f3.f1))) (fun _ hk => hk.2) (.int .i64 ((rd_T36 l0 x77_4).f3.f2))) (fun _ hk => hk.2) (.int .i64 ((rd_T36 l0 x77_4).f3.f3))) (fun _ hk => hk.2) (.int .i64 ((rd_T36 l0 x77_4).f3.f4))) (fun _ hk => hk.2) (.bool ((rd_T36 l0 x77_4).f3.f5))) (fun _ hk => hk.2) (.string ((rd_T36 l0 x77_4).f4))) (fun _ h_ => h_.1))) hb);have n3_:=Aside0.mk (blk_below (g:=gb281) (o:=.cells #[.slice (some ad285) t274.length co15,.slice Ao17 t277.length co17,.int .i64 t280] 28 (0,0)) (by (with_reducible repeat (first|refine blk_drewN ?_ _|refine blk_drew ?_|refine blk_alloc ?_ _));refine blk_far ?_ NB281_288.out _;(with_reducible repeat (first|refine blk_drewN ?_ _|refine blk_drew ?_|refine blk_alloc ?_ _));refine blk_far ?_ NB281_288.out _;(with_reducible repeat (first|refine blk_drewN ?_ _|refine blk_drew ?_|refine blk_alloc ?_ _));refine blk_far ?_ NB281_288.out _;(with_reducible repeat (first|refine blk_drewN ?_ _|refine blk_drew ?_|refine blk_alloc ?_ _));refine blk_far ?_ NB281_288.out _;(with_reducible repeat (first|refine blk_drewN ?_ _|refine blk_drew ?_|refine blk_alloc ?_ _));refine blk_far ?_ NB281_288.out _;(with_reducible repeat (first|refine blk_drewN ?_ _|refine blk_drew ?_|refine blk_alloc ?_ _));refine blk_far ?_ NB281_288.out _;(with_reducible repeat (first|refine blk_drewN ?_ _|refine blk_drew ?_|refine blk_alloc ?_ _));refine blk_far ?_ NB281_288.out _;(with_reducible repeat (first|refine blk_drewN ?_ _|refine blk_drew ?_|refine blk_alloc ?_ _));refine blk_far ?_ NB281_288.out _;(with_reducible repeat (first|refine blk_drewN ?_ _|refine blk_drew ?_|refine blk_alloc ?_ _));refine blk_far ?_ NB281_288.out _;(with_reducible repeat (first|refine blk_drewN ?_ _|refine blk_drew ?_|refine blk_alloc ?_ _));refine blk_far ?_ NB281_288.out _;(with_reducible repeat (first|refine blk_drewN ?_ _|refine blk_drew ?_|refine blk_alloc ?_ _));exact BK281.out) hb);have n4_:=Aside0.mk (blk_below (g:=gb283) (o:=.cells #[.int .i64 ((rd_T36 l0 x35_1).f0),.int .i64 ((rd_T36 l0 x35_1).f1),.bool ((rd_T36 l0 x35_1).f2),.int .i64 ((rd_T36 l0 x35_1).f3.f0),.int .i64 ((rd_T36 l0 x35_1).f3.f1),.int .i64 ((rd_T36 l0 x35_1).f3.f2),.int .i64 ((rd_T36 l0 x35_1).f3.f3),.int .i64 ((rd_T36 l0 x35_1).f3.f4),.bool ((rd_T36 l0 x35_1).f3.f5),.string ((rd_T36 l0 x35_1).f4)] 36 (0,0)) (by (with_reducible repeat (first|refine blk_drewN ?_ _|refine blk_drew ?_|refine blk_alloc ?_ _));refine blk_far ?_ NB283_288.out _;(with_reducible repeat (first|refine blk_drewN ?_ _|refine blk_drew ?_|refine blk_alloc ?_ _));refine blk_far ?_ NB283_288.out _;(with_reducible repeat (first|refine blk_drewN ?_ _|refine blk_drew ?_|refine blk_alloc ?_ _));refine blk_far ?_ NB283_288.out _;(with_reducible repeat (first|refine blk_drewN ?_ _|refine blk_drew ?_|refine blk_alloc ?_ _));refine blk_far ?_ NB283_288.out _;(with_reducible repeat (first|refine blk_drewN ?_ _|refine blk_drew ?_|refine blk_alloc ?_ _));refine blk_far ?_ NB283_288.out _;(with_reducible repeat (first|refine blk_drewN ?_ _|refine blk_drew ?_|refine blk_alloc ?_ _));refine blk_far ?_ NB283_288.out _;(with_reducible repeat (first|refine blk_drewN ?_ _|refine blk_drew ?_|refine blk_alloc ?_ _));refine blk_far ?_ NB283_288.out _;(with_reducible repeat (first|refine blk_drewN ?_ _|refine blk_drew ?_|refine blk_alloc ?_ _));refine blk_far ?_ NB283_288.out _;(with_reducible repeat (first|refine blk_drewN ?_ _|refine blk_drew ?_|refine blk_alloc ?_ _));refine blk_far ?_ NB283_288.out _;(with_reducible repeat (first|refine blk_drewN ?_ _|refine blk_drew ?_|refine blk_alloc ?_ _));refine blk_far ?_ NB283_288.out _;(with_reducible repeat (first|refine blk_drewN ?_ _|refine blk_drew ?_|refine blk_alloc ?_ _));exact BK283.out) hb);have n5_:=Aside0.mk (blk_below (g:=gb286) (o:=.cells #[.int .i64 ((rd_T40 t274 x65_3).f0),.int .i64 ((rd_T40 t274 x65_3).f1),.int .i64 ((rd_T40 t274 x65_3).f2)] 40 (0,0)) (by (with_reducible repeat (first|refine blk_drewN ?_ _|refine blk_drew ?_|refine blk_alloc ?_ _));refine blk_far ?_ NB286_288.out _;(with_reducible repeat (first|refine blk_drewN ?_ _|refine blk_drew ?_|refine blk_alloc ?_ _));refine blk_far ?_ NB286_288.out _;(with_reducible repeat (first|refine blk_drewN ?_ _|refine blk_drew ?_|refine blk_alloc ?_ _));refine blk_far ?_ NB286_288.out _;(with_reducible repeat (first|refine blk_drewN ?_ _|refine blk_drew ?_|refine blk_alloc ?_ _));refine blk_far ?_ NB286_288.out _;(with_reducible repeat (first|refine blk_drewN ?_ _|refine blk_drew ?_|refine blk_alloc ?_ _));refine blk_far ?_ NB286_288.out _;(with_reducible repeat (first|refine blk_drewN ?_ _|refine blk_drew ?_|refine blk_alloc ?_ _));refine blk_far ?_ NB286_288.out _;(with_reducible repeat (first|refine blk_drewN ?_ _|refine blk_drew ?_|refine blk_alloc ?_ _));refine blk_far ?_ NB286_288.out _;(with_reducible repeat (first|refine blk_drewN ?_ _|refine blk_drew ?_|refine blk_alloc ?_ _));refine blk_far ?_ NB286_288.out _;(with_reducible repeat (first|refine blk_drewN ?_ _|refine blk_drew ?_|refine blk_alloc ?_ _));refine blk_far ?_ NB286_288.out _;(with_reducible repeat (first|refine blk_drewN ?_ _|refine blk_drew ?_|refine blk_alloc ?_ _));refine blk_far ?_ NB286_288.out _;(with_reducible repeat (first|refine blk_drewN ?_ _|refine blk_drew ?_|refine blk_alloc ?_ _));exact BK286.out) hb);have n6_:=Aside0.mk (blk_below (g:=gb288) (o:=.cells #[.int .i64 ((rd_T36 l0 x77_4).f0),.int .i64 ((rd_T36 l0 x77_4).f1),.bool ((rd_T36 l0 x77_4).f2),.int .i64 ((rd_T36 l0 x77_4).f3.f0),.int .i64 ((rd_T36 l0 x77_4).f3.f1),.int .i64 ((rd_T36 l0 x77_4).f3.f2),.int .i64 ((rd_T36 l0 x77_4).f3.f3),.int .i64 ((rd_T36 l0 x77_4).f3.f4),.bool ((rd_T36 l0 x77_4).f3.f5),.string ((rd_T36 l0 x77_4).f4)] 36 (0,0)) (by (with_reducible repeat (first|refine blk_drewN ?_ _|refine blk_drew ?_|refine blk_alloc ?_ _));refine blk_put (cs:=#[.int .i64 ((rd_T36 l0 x77_4).f0),.int .i64 ((rd_T36 l0 x77_4).f1),.bool ((rd_T36 l0 x77_4).f2),.int .i64 ((rd_T36 l0 x77_4).f3.f0),.int .i64 ((rd_T36 l0 x77_4).f3.f1),.int .i64 ((rd_T36 l0 x77_4).f3.f2),.int .i64 ((rd_T36 l0 x77_4).f3.f3),.int .i64 ((rd_T36 l0 x77_4).f3.f4),.bool ((rd_T36 l0 x77_4).f3.f5),.string (⟨#[]⟩ : ByteArray)]) ?_ 9 _ rfl;(with_reducible repeat (first|refine blk_drewN ?_ _|refine blk_drew ?_|refine blk_alloc ?_ _));refine blk_put (cs:=#[.int .i64 ((rd_T36 l0 x77_4).f0),.int .i64 ((rd_T36 l0 x77_4).f1),.bool ((rd_T36 l0 x77_4).f2),.int .i64 ((rd_T36 l0 x77_4).f3.f0),.int .i64 ((rd_T36 l0 x77_4).f3.f1),.int .i64 ((rd_T36 l0 x77_4).f3.f2),.int .i64 ((rd_T36 l0 x77_4).f3.f3),.int .i64 ((rd_T36 l0 x77_4).f3.f4),.bool false,.string (⟨#[]⟩ : ByteArray)]) ?_ 8 _ rfl;(with_reducible repeat (first|refine blk_drewN ?_ _|refine blk_drew ?_|refine blk_alloc ?_ _));refine blk_put (cs:=#[.int .i64 ((rd_T36 l0 x77_4).f0),.int .i64 ((rd_T36 l0 x77_4).f1),.bool ((rd_T36 l0 x77_4).f2),.int .i64 ((rd_T36 l0 x77_4).f3.f0),.int .i64 ((rd_T36 l0 x77_4).f3.f1),.int .i64 ((rd_T36 l0 x77_4).f3.f2),.int .i64 ((rd_T36 l0 x77_4).f3.f3),.int .i64 0,.bool false,.string (⟨#[]⟩ : ByteArray)]) ?_ 7 _ rfl;(with_reducible repeat (first|refine blk_drewN ?_ _|refine blk_drew ?_|refine blk_alloc ?_ _));refine blk_put (cs:=#[.int .i64 ((rd_T36 l0 x77_4).f0),.int .i64 ((rd_T36 l0 x77_4).f1),.bool ((rd_T36 l0 x77_4).f2),.int .i64 ((rd_T36 l0 x77_4).f3.f0),.int .i64 ((rd_T36 l0 x77_4).f3.f1),.int .i64 ((rd_T36 l0 x77_4).f3.f2),.int .i64 0,.int .i64 0,.bool false,.string (⟨#[]⟩ : ByteArray)]) ?_ 6 _ rfl;(with_reducible repeat (first|refine blk_drewN ?_ _|refine blk_drew ?_|refine blk_alloc ?_ _));refine blk_put (cs:=#[.int .i64 ((rd_T36 l0 x77_4).f0),.int .i64 ((rd_T36 l0 x77_4).f1),.bool ((rd_T36 l0 x77_4).f2),.int .i64 ((rd_T36 l0 x77_4).f3.f0),.int .i64 ((rd_T36 l0 x77_4).f3.f1),.int .i64 0,.int .i64 0,.int .i64 0,.bool false,.string (⟨#[]⟩ : ByteArray)]) ?_ 5 _ rfl;(with_reducible repeat (first|refine blk_drewN ?_ _|refine blk_drew ?_|refine blk_alloc ?_ _));refine blk_put (cs:=#[.int .i64 ((rd_T36 l0 x77_4).f0),.int .i64 ((rd_T36 l0 x77_4).f1),.bool ((rd_T36 l0 x77_4).f2),.int .i64 ((rd_T36 l0 x77_4).f3.f0),.int .i64 0,.int .i64 0,.int .i64 0,.int .i64 0,.bool false,.string (⟨#[]⟩ : ByteArray)]) ?_ 4 _ rfl;(with_reducible repeat (first|refine blk_drewN ?_ _|refine blk_drew ?_|refine blk_alloc ?_ _));refine blk_put (cs:=#[.int .i64 ((rd_T36 l0 x77_4).f0),.int .i64 ((rd_T36 l0 x77_4).f1),.bool ((rd_T36 l0 x77_4).f2),.int .i64 0,.int .i64 0,.int .i64 0,.int .i64 0,.int .i64 0,.bool false,.string (⟨#[]⟩ : ByteArray)]) ?_ 3 _ rfl;(with_reducible repeat (first|refine blk_drewN ?_ _|refine blk_drew ?_|refine blk_alloc ?_ _));refine blk_put (cs:=#[.int .i64 ((rd_T36 l0 x77_4).f0),.int .i64 ((rd_T36 l0 x77_4).f1),.bool false,.int .i64 0,.int .i64 0,.int .i64 0,.int .i64 0,.int .i64 0,.bool false,.string (⟨#[]⟩ : ByteArray)]) ?_ 2 _ rfl;(with_reducible repeat (first|refine blk_drewN ?_ _|refine blk_drew ?_|refine blk_alloc ?_ _));refine blk_put (cs:=#[.int .i64 ((rd_T36 l0 x77_4).f0),.int .i64 0,.bool false,.int .i64 0,.int .i64 0,.int .i64 0,.int .i64 0,.int .i64 0,.bool false,.string (⟨#[]⟩ : ByteArray)]) ?_ 1 _ rfl;(with_reducible repeat (first|refine blk_drewN ?_ _|refine blk_drew ?_|refine blk_alloc ?_ _));refine blk_put (cs:=#[.int .i64 0,.int .i64 0,.bool false,.int .i64 0,.int .i64 0,.int .i64 0,.int .i64 0,.int .i64 0,.bool false,.string (⟨#[]⟩ : ByteArray)]) ?_ 0 _ rfl;(with_reducible repeat (first|refine blk_drewN ?_ _|refine blk_drew ?_|refine blk_alloc ?_ _));exact BK288.out) hb);have n7_:=Aside0.mk (below_step (by repeat (first|(with_reducible first|exact HB.out|apply below_alloc|apply pw_below_drewN|apply below_drew1|refine below_set ?_ GE281.out|refine below_set ?_ GE283.out|refine below_set ?_ GE286.out|refine below_set ?_ GE288.out)|exact HB.out)) hb);clear HO_63;clear HO_282000;clear HO_282001;clear BK281;clear BK283;clear BK286;clear BK288;clear HB;have HO_63:=n0_;have HO_282000:=n1_;have HO_282001:=n2_;have BK281:=n3_;have BK283:=n4_;have BK286:=n5_;have BK288:=n6_;have HB:=n7_;clear n0_ n1_ n2_ n3_ n4_ n5_ n6_ n7_;(try clear hb);(try clear hb2);(try clear hk);(try clear hi)))
                          go_roundg k4
                          case measure => have:=HK1.out;have:=HJ20.out;have:=HK3.out;have:=HK4.out;omega
                          case rel => exact ⟨(false),(wrap64 (x77_4 + 1)),(by first|rfl|(simp;done)|(simp [*];done)),(by first|rfl|(simp;done)|(simp [*];done)),H',⟨by have:=HK1.out;have:=HJ20.out;have:=HK3.out;have:=HK4.out;omega⟩,⟨by (with_reducible repeat (first|apply Kd.R_alloc|apply Kd.R_drewN|apply Kd.R_drew));exact HO_63.out⟩,⟨by (with_reducible repeat (first|apply Kd.R_alloc|apply Kd.R_drewN|apply Kd.R_drew));exact HO_282000.out⟩,⟨by (with_reducible repeat (first|apply Kd.R_alloc|apply Kd.R_drewN|apply Kd.R_drew));exact HO_282001.out⟩,⟨by (with_reducible repeat (first|refine blk_drewN ?_ _|refine blk_drew ?_|refine blk_alloc ?_ _));exact BK281.out⟩,⟨by (with_reducible repeat (first|refine blk_drewN ?_ _|refine blk_drew ?_|refine blk_alloc ?_ _));exact BK283.out⟩,⟨by (with_reducible repeat (first|refine blk_drewN ?_ _|refine blk_drew ?_|refine blk_alloc ?_ _));exact BK286.out⟩,⟨by repeat (first|(with_reducible first|exact HB.out|apply below_alloc|apply pw_below_drewN|apply below_drew1|refine below_set ?_ GE281.out|refine below_set ?_ GE283.out|refine below_set ?_ GE286.out|refine below_set ?_ GE288.out)|exact HB.out)⟩⟩
                        ·rw [if_neg c63] at H
                         have c63b0 : (((rd_T36 l0 x77_4).f1) == ((rd_T40 t274 x65_3).f2)) = false:=beq_eq_false_iff_ne.mpr c63
                         have c63b1 : (((rd_T36 l0 x77_4).f1) != ((rd_T40 t274 x65_3).f2)) = true:=bne_iff_ne.mpr c63
                         have H' := Aside0.mk H
                         clear H
                         have p287 : 0 ≤ (x77_4 : Int):=of_decide_eq_true (by first|(with_reducible assumption)|assumption)
                         have q287 : x77_4 < (l0.length : Int):=of_decide_eq_true (by first|(with_reducible assumption)|assumption)
                         obtain ⟨ad287,e287,hx287_0,hx287_1,hx287_2,hx287_3,hx287_4,hx287_5,hx287_6,hx287_7,hx287_8,hx287_9⟩:=at_T36 HR0.out x77_4 p287 q287
                         obtain rfl : ad282 = ad287 := (by injection e287)
                         replace hx287_0:=(HB.out.cell (World.block_lt_of_cell? w _ hx287_0)).trans hx287_0
                         replace hx287_1:=(HB.out.cell (World.block_lt_of_cell? w _ hx287_1)).trans hx287_1
                         replace hx287_2:=(HB.out.cell (World.block_lt_of_cell? w _ hx287_2)).trans hx287_2
                         replace hx287_3:=(HB.out.cell (World.block_lt_of_cell? w _ hx287_3)).trans hx287_3
                         replace hx287_4:=(HB.out.cell (World.block_lt_of_cell? w _ hx287_4)).trans hx287_4
                         replace hx287_5:=(HB.out.cell (World.block_lt_of_cell? w _ hx287_5)).trans hx287_5
                         replace hx287_6:=(HB.out.cell (World.block_lt_of_cell? w _ hx287_6)).trans hx287_6
                         replace hx287_7:=(HB.out.cell (World.block_lt_of_cell? w _ hx287_7)).trans hx287_7
                         replace hx287_8:=(HB.out.cell (World.block_lt_of_cell? w _ hx287_8)).trans hx287_8
                         replace hx287_9:=(HB.out.cell (World.block_lt_of_cell? w _ hx287_9)).trans hx287_9
                         replace p287 := eq_true p287
                         replace q287 := eq_true q287
                         go_wp2_with (first|((with_reducible refine gate_dst (N:=18) rfl ?_);refine box_event ?hg (N:=18) ?hd (cs:=#[.int .i64 0,.int .i64 0,.bool false,.int .i64 0,.int .i64 0,.int .i64 0,.int .i64 0,.int .i64 0,.bool false,.string (⟨#[]⟩ : ByteArray)]) (t:=36) ?hr ?_;(case hd => rfl);(case hg => rfl);(case hr => first|(go_simp;done)|(go_simp;rfl));intro gb288 hg w100 hbox hb;have n0_:=Aside0.mk (Kd.R_below (by (with_reducible repeat (first|apply Kd.R_alloc|apply Kd.R_drewN|apply Kd.R_drew));exact HO_63.out) hb);have n1_:=Aside0.mk (Kd.R_below (by (with_reducible repeat (first|apply Kd.R_alloc|apply Kd.R_drewN|apply Kd.R_drew));exact HO_282000.out) hb);have n2_:=Aside0.mk (Kd.R_below (by (with_reducible repeat (first|apply Kd.R_alloc|apply Kd.R_drewN|apply Kd.R_drew));exact HO_282001.out) hb);have n3_:=Aside0.mk (blk_below (g:=gb281) (o:=.cells #[.slice (some ad285) t274.length co15,.slice Ao17 t277.length co17,.int .i64 t280] 28 (0,0)) (by (with_reducible repeat (first|refine blk_drewN ?_ _|refine blk_drew ?_|refine blk_alloc ?_ _));exact BK281.out) hb);have n4_:=Aside0.mk (blk_below (g:=gb283) (o:=.cells #[.int .i64 ((rd_T36 l0 x35_1).f0),.int .i64 ((rd_T36 l0 x35_1).f1),.bool ((rd_T36 l0 x35_1).f2),.int .i64 ((rd_T36 l0 x35_1).f3.f0),.int .i64 ((rd_T36 l0 x35_1).f3.f1),.int .i64 ((rd_T36 l0 x35_1).f3.f2),.int .i64 ((rd_T36 l0 x35_1).f3.f3),.int .i64 ((rd_T36 l0 x35_1).f3.f4),.bool ((rd_T36 l0 x35_1).f3.f5),.string ((rd_T36 l0 x35_1).f4)] 36 (0,0)) (by (with_reducible repeat (first|refine blk_drewN ?_ _|refine blk_drew ?_|refine blk_alloc ?_ _));exact BK283.out) hb);have n5_:=Aside0.mk (blk_below (g:=gb286) (o:=.cells #[.int .i64 ((rd_T40 t274 x65_3).f0),.int .i64 ((rd_T40 t274 x65_3).f1),.int .i64 ((rd_T40 t274 x65_3).f2)] 40 (0,0)) (by (with_reducible repeat (first|refine blk_drewN ?_ _|refine blk_drew ?_|refine blk_alloc ?_ _));exact BK286.out) hb);have n6_:=Aside0.mk (below_step (by repeat (first|(with_reducible first|exact HB.out|apply below_alloc|apply pw_below_drewN|apply below_drew1|refine below_set ?_ GE281.out|refine below_set ?_ GE283.out|refine below_set ?_ GE286.out)|exact HB.out)) hb);have n7_:=Aside0.mk (hbox);have n8_:=Aside0.mk ((by rw [hg];exact (below_size (by repeat (first|(with_reducible first|exact HB.out|apply below_alloc|apply pw_below_drewN|apply below_drew1|refine below_set ?_ GE281.out|refine below_set ?_ GE283.out|refine below_set ?_ GE286.out)|exact HB.out))) : w.heap.size ≤ gb288));have n9_:=Aside0.mk ((by rw [hg];exact (below_size (by repeat (first|(with_reducible first|exact HB.out|apply below_alloc|apply pw_below_drewN|apply below_drew1|refine below_set ?_ GE281.out|refine below_set ?_ GE283.out|refine below_set ?_ GE286.out)|exact HB.out))) : w.heap.size ≤ gb288));have n10_:=Aside0.mk ((by rw [hg];exact Nat.ne_of_lt (blk_lt (g:=gb281) (o:=.cells #[.slice (some ad285) t274.length co15,.slice Ao17 t277.length co17,.int .i64 t280] 28 (0,0)) (by (with_reducible repeat (first|refine blk_drewN ?_ _|refine blk_drew ?_|refine blk_alloc ?_ _));exact BK281.out)) : gb281 ≠ gb288));have n11_:=Aside0.mk ((by rw [hg];exact Nat.ne_of_gt (blk_lt (g:=gb281) (o:=.cells #[.slice (some ad285) t274.length co15,.slice Ao17 t277.length co17,.int .i64 t280] 28 (0,0)) (by (with_reducible repeat (first|refine blk_drewN ?_ _|refine blk_drew ?_|refine blk_alloc ?_ _));exact BK281.out)) : gb288 ≠ gb281));have n12_:=Aside0.mk ((by rw [hg];exact Nat.ne_of_lt (blk_lt (g:=gb283) (o:=.cells #[.int .i64 ((rd_T36 l0 x35_1).f0),.int .i64 ((rd_T36 l0 x35_1).f1),.bool ((rd_T36 l0 x35_1).f2),.int .i64 ((rd_T36 l0 x35_1).f3.f0),.int .i64 ((rd_T36 l0 x35_1).f3.f1),.int .i64 ((rd_T36 l0 x35_1).f3.f2),.int .i64 ((rd_T36 l0 x35_1).f3.f3),.int .i64 ((rd_T36 l0 x35_1).f3.f4),.bool ((rd_T36 l0 x35_1).f3.f5),.string ((rd_T36 l0 x35_1).f4)] 36 (0,0)) (by (with_reducible repeat (first|refine blk_drewN ?_ _|refine blk_drew ?_|refine blk_alloc ?_ _));exact BK283.out)) : gb283 ≠ gb288));have n13_:=Aside0.mk ((by rw [hg];exact Nat.ne_of_gt (blk_lt (g:=gb283) (o:=.cells #[.int .i64 ((rd_T36 l0 x35_1).f0),.int .i64 ((rd_T36 l0 x35_1).f1),.bool ((rd_T36 l0 x35_1).f2),.int .i64 ((rd_T36 l0 x35_1).f3.f0),.int .i64 ((rd_T36 l0 x35_1).f3.f1),.int .i64 ((rd_T36 l0 x35_1).f3.f2),.int .i64 ((rd_T36 l0 x35_1).f3.f3),.int .i64 ((rd_T36 l0 x35_1).f3.f4),.bool ((rd_T36 l0 x35_1).f3.f5),.string ((rd_T36 l0 x35_1).f4)] 36 (0,0)) (by (with_reducible repeat (first|refine blk_drewN ?_ _|refine blk_drew ?_|refine blk_alloc ?_ _));exact BK283.out)) : gb288 ≠ gb283));have n14_:=Aside0.mk ((by rw [hg];exact Nat.ne_of_lt (blk_lt (g:=gb286) (o:=.cells #[.int .i64 ((rd_T40 t274 x65_3).f0),.int .i64 ((rd_T40 t274 x65_3).f1),.int .i64 ((rd_T40 t274 x65_3).f2)] 40 (0,0)) (by (with_reducible repeat (first|refine blk_drewN ?_ _|refine blk_drew ?_|refine blk_alloc ?_ _));exact BK286.out)) : gb286 ≠ gb288));have n15_:=Aside0.mk ((by rw [hg];exact Nat.ne_of_gt (blk_lt (g:=gb286) (o:=.cells #[.int .i64 ((rd_T40 t274 x65_3).f0),.int .i64 ((rd_T40 t274 x65_3).f1),.int .i64 ((rd_T40 t274 x65_3).f2)] 40 (0,0)) (by (with_reducible repeat (first|refine blk_drewN ?_ _|refine blk_drew ?_|refine blk_alloc ?_ _));exact BK286.out)) : gb288 ≠ gb286));clear HO_63;clear HO_282000;clear HO_282001;clear BK281;clear BK283;clear BK286;clear HB;have HO_63:=n0_;have HO_282000:=n1_;have HO_282001:=n2_;have BK281:=n3_;have BK283:=n4_;have BK286:=n5_;have HB:=n6_;have BK288:=n7_;have GW288:=n8_;have GE288:=n9_;have NB281_288:=n10_;have NB288_281:=n11_;have NB283_288:=n12_;have NB288_283:=n13_;have NB286_288:=n14_;have NB288_286:=n15_;clear n0_ n1_ n2_ n3_ n4_ n5_ n6_ n7_ n8_ n9_ n10_ n11_ n12_ n13_ n14_ n15_;clear hb hbox hg;have hnb101:=NB288_281.out;have hnc101:=NB281_288.out;have hnb102:=NB288_283.out;have hnc102:=NB283_288.out;have hnb103:=NB288_286.out;have hnc103:=NB286_288.out;have hcz104_0 : w100.cell? ⟨gb288,0,none⟩ = some (.int .i64 0):=(blk_cell BK288.out 0).trans rfl;have hcz104_1 : w100.cell? ⟨gb288,1,none⟩ = some (.int .i64 0):=(blk_cell BK288.out 1).trans rfl;have hcz104_2 : w100.cell? ⟨gb288,2,none⟩ = some (.bool false):=(blk_cell BK288.out 2).trans rfl;have hcz104_3 : w100.cell? ⟨gb288,3,none⟩ = some (.int .i64 0):=(blk_cell BK288.out 3).trans rfl;have hcz104_4 : w100.cell? ⟨gb288,4,none⟩ = some (.int .i64 0):=(blk_cell BK288.out 4).trans rfl;have hcz104_5 : w100.cell? ⟨gb288,5,none⟩ = some (.int .i64 0):=(blk_cell BK288.out 5).trans rfl;have hcz104_6 : w100.cell? ⟨gb288,6,none⟩ = some (.int .i64 0):=(blk_cell BK288.out 6).trans rfl;have hcz104_7 : w100.cell? ⟨gb288,7,none⟩ = some (.int .i64 0):=(blk_cell BK288.out 7).trans rfl;have hcz104_8 : w100.cell? ⟨gb288,8,none⟩ = some (.bool false):=(blk_cell BK288.out 8).trans rfl;have hcz104_9 : w100.cell? ⟨gb288,9,none⟩ = some (.string (⟨#[]⟩ : ByteArray)):=(blk_cell BK288.out 9).trans rfl;have hfz104_0:=blk_frozen BK288.out 0;have hfz104_1:=blk_frozen BK288.out 1;have hfz104_2:=blk_frozen BK288.out 2;have hfz104_3:=blk_frozen BK288.out 3;have hfz104_4:=blk_frozen BK288.out 4;have hfz104_5:=blk_frozen BK288.out 5;have hfz104_6:=blk_frozen BK288.out 6;have hfz104_7:=blk_frozen BK288.out 7;have hfz104_8:=blk_frozen BK288.out 8;have hfz104_9:=blk_frozen BK288.out 9;have hnb105:=NB286_281.out;have hnc105:=NB281_286.out;have hnb106:=NB286_283.out;have hnc106:=NB283_286.out;have hcz107_0 : w100.cell? ⟨gb286,0,none⟩ = some (.int .i64 ((rd_T40 t274 x65_3).f0)):=(blk_cell BK286.out 0).trans rfl;have hcz107_1 : w100.cell? ⟨gb286,1,none⟩ = some (.int .i64 ((rd_T40 t274 x65_3).f1)):=(blk_cell BK286.out 1).trans rfl;have hcz107_2 : w100.cell? ⟨gb286,2,none⟩ = some (.int .i64 ((rd_T40 t274 x65_3).f2)):=(blk_cell BK286.out 2).trans rfl;have hfz107_0:=blk_frozen BK286.out 0;have hfz107_1:=blk_frozen BK286.out 1;have hfz107_2:=blk_frozen BK286.out 2))
                         go_roundg k4
                         case measure => have:=HK1.out;have:=HJ20.out;have:=HK3.out;have:=HK4.out;omega
                         case rel => exact ⟨(false),(wrap64 (x77_4 + 1)),(by first|rfl|(simp;done)|(simp [*];done)),(by first|rfl|(simp;done)|(simp [*];done)),H',⟨by have:=HK1.out;have:=HJ20.out;have:=HK3.out;have:=HK4.out;omega⟩,⟨by (with_reducible repeat (first|apply Kd.R_alloc|apply Kd.R_drewN|apply Kd.R_drew));exact Kd.R_mono (Kd.R_far (p:=⟨gb288,9,none⟩) (Kd.R_far (p:=⟨gb288,8,none⟩) (Kd.R_far (p:=⟨gb288,7,none⟩) (Kd.R_far (p:=⟨gb288,6,none⟩) (Kd.R_far (p:=⟨gb288,5,none⟩) (Kd.R_far (p:=⟨gb288,4,none⟩) (Kd.R_far (p:=⟨gb288,3,none⟩) (Kd.R_far (p:=⟨gb288,2,none⟩) (Kd.R_far (p:=⟨gb288,1,none⟩) (Kd.R_far (p:=⟨gb288,0,none⟩) (Kd.R_types HO_63.out BK288.out (by decide)) (fun _ hk => hk.2) (.int .i64 ((rd_T36 l0 x77_4).f0))) (fun _ hk => hk.2) (.int .i64 ((rd_T36 l0 x77_4).f1))) (fun _ hk => hk.2) (.bool ((rd_T36 l0 x77_4).f2))) (fun _ hk => hk.2) (.int .i64 ((rd_T36 l0 x77_4).f3.f0))) (fun _ hk => hk.2) (.int .i64 ((rd_T36 l0 x77_4).f3.f1))) (fun _ hk => hk.2) (.int .i64 ((rd_T36 l0 x77_4).f3.f2))) (fun _ hk => hk.2) (.int .i64 ((rd_T36 l0 x77_4).f3.f3))) (fun _ hk => hk.2) (.int .i64 ((rd_T36 l0 x77_4).f3.f4))) (fun _ hk => hk.2) (.bool ((rd_T36 l0 x77_4).f3.f5))) (fun _ hk => hk.2) (.string ((rd_T36 l0 x77_4).f4))) (fun _ hk => hk.1)⟩,⟨by (with_reducible repeat (first|apply Kd.R_alloc|apply Kd.R_drewN|apply Kd.R_drew));exact Kd.R_mono (Kd.R_far (p:=⟨gb288,9,none⟩) (Kd.R_far (p:=⟨gb288,8,none⟩) (Kd.R_far (p:=⟨gb288,7,none⟩) (Kd.R_far (p:=⟨gb288,6,none⟩) (Kd.R_far (p:=⟨gb288,5,none⟩) (Kd.R_far (p:=⟨gb288,4,none⟩) (Kd.R_far (p:=⟨gb288,3,none⟩) (Kd.R_far (p:=⟨gb288,2,none⟩) (Kd.R_far (p:=⟨gb288,1,none⟩) (Kd.R_far (p:=⟨gb288,0,none⟩) (Kd.R_types HO_282000.out BK288.out (by decide)) (fun _ hk => hk.2) (.int .i64 ((rd_T36 l0 x77_4).f0))) (fun _ hk => hk.2) (.int .i64 ((rd_T36 l0 x77_4).f1))) (fun _ hk => hk.2) (.bool ((rd_T36 l0 x77_4).f2))) (fun _ hk => hk.2) (.int .i64 ((rd_T36 l0 x77_4).f3.f0))) (fun _ hk => hk.2) (.int .i64 ((rd_T36 l0 x77_4).f3.f1))) (fun _ hk => hk.2) (.int .i64 ((rd_T36 l0 x77_4).f3.f2))) (fun _ hk => hk.2) (.int .i64 ((rd_T36 l0 x77_4).f3.f3))) (fun _ hk => hk.2) (.int .i64 ((rd_T36 l0 x77_4).f3.f4))) (fun _ hk => hk.2) (.bool ((rd_T36 l0 x77_4).f3.f5))) (fun _ hk => hk.2) (.string ((rd_T36 l0 x77_4).f4))) (fun _ hk => hk.1)⟩,⟨by (with_reducible repeat (first|apply Kd.R_alloc|apply Kd.R_drewN|apply Kd.R_drew));exact Kd.R_mono (Kd.R_far (p:=⟨gb288,9,none⟩) (Kd.R_far (p:=⟨gb288,8,none⟩) (Kd.R_far (p:=⟨gb288,7,none⟩) (Kd.R_far (p:=⟨gb288,6,none⟩) (Kd.R_far (p:=⟨gb288,5,none⟩) (Kd.R_far (p:=⟨gb288,4,none⟩) (Kd.R_far (p:=⟨gb288,3,none⟩) (Kd.R_far (p:=⟨gb288,2,none⟩) (Kd.R_far (p:=⟨gb288,1,none⟩) (Kd.R_far (p:=⟨gb288,0,none⟩) (Kd.R_types HO_282001.out BK288.out (by decide)) (fun _ hk => hk.2) (.int .i64 ((rd_T36 l0 x77_4).f0))) (fun _ hk => hk.2) (.int .i64 ((rd_T36 l0 x77_4).f1))) (fun _ hk => hk.2) (.bool ((rd_T36 l0 x77_4).f2))) (fun _ hk => hk.2) (.int .i64 ((rd_T36 l0 x77_4).f3.f0))) (fun _ hk => hk.2) (.int .i64 ((rd_T36 l0 x77_4).f3.f1))) (fun _ hk => hk.2) (.int .i64 ((rd_T36 l0 x77_4).f3.f2))) (fun _ hk => hk.2) (.int .i64 ((rd_T36 l0 x77_4).f3.f3))) (fun _ hk => hk.2) (.int .i64 ((rd_T36 l0 x77_4).f3.f4))) (fun _ hk => hk.2) (.bool ((rd_T36 l0 x77_4).f3.f5))) (fun _ hk => hk.2) (.string ((rd_T36 l0 x77_4).f4))) (fun _ hk => trivial)⟩,⟨by (with_reducible repeat (first|refine blk_drewN ?_ _|refine blk_drew ?_|refine blk_alloc ?_ _));refine blk_far ?_ NB281_288.out _;(with_reducible repeat (first|refine blk_drewN ?_ _|refine blk_drew ?_|refine blk_alloc ?_ _));refine blk_far ?_ NB281_288.out _;(with_reducible repeat (first|refine blk_drewN ?_ _|refine blk_drew ?_|refine blk_alloc ?_ _));refine blk_far ?_ NB281_288.out _;(with_reducible repeat (first|refine blk_drewN ?_ _|refine blk_drew ?_|refine blk_alloc ?_ _));refine blk_far ?_ NB281_288.out _;(with_reducible repeat (first|refine blk_drewN ?_ _|refine blk_drew ?_|refine blk_alloc ?_ _));refine blk_far ?_ NB281_288.out _;(with_reducible repeat (first|refine blk_drewN ?_ _|refine blk_drew ?_|refine blk_alloc ?_ _));refine blk_far ?_ NB281_288.out _;(with_reducible repeat (first|refine blk_drewN ?_ _|refine blk_drew ?_|refine blk_alloc ?_ _));refine blk_far ?_ NB281_288.out _;(with_reducible repeat (first|refine blk_drewN ?_ _|refine blk_drew ?_|refine blk_alloc ?_ _));refine blk_far ?_ NB281_288.out _;(with_reducible repeat (first|refine blk_drewN ?_ _|refine blk_drew ?_|refine blk_alloc ?_ _));refine blk_far ?_ NB281_288.out _;(with_reducible repeat (first|refine blk_drewN ?_ _|refine blk_drew ?_|refine blk_alloc ?_ _));refine blk_far ?_ NB281_288.out _;(with_reducible repeat (first|refine blk_drewN ?_ _|refine blk_drew ?_|refine blk_alloc ?_ _));exact BK281.out⟩,⟨by (with_reducible repeat (first|refine blk_drewN ?_ _|refine blk_drew ?_|refine blk_alloc ?_ _));refine blk_far ?_ NB283_288.out _;(with_reducible repeat (first|refine blk_drewN ?_ _|refine blk_drew ?_|refine blk_alloc ?_ _));refine blk_far ?_ NB283_288.out _;(with_reducible repeat (first|refine blk_drewN ?_ _|refine blk_drew ?_|refine blk_alloc ?_ _));refine blk_far ?_ NB283_288.out _;(with_reducible repeat (first|refine blk_drewN ?_ _|refine blk_drew ?_|refine blk_alloc ?_ _));refine blk_far ?_ NB283_288.out _;(with_reducible repeat (first|refine blk_drewN ?_ _|refine blk_drew ?_|refine blk_alloc ?_ _));refine blk_far ?_ NB283_288.out _;(with_reducible repeat (first|refine blk_drewN ?_ _|refine blk_drew ?_|refine blk_alloc ?_ _));refine blk_far ?_ NB283_288.out _;(with_reducible repeat (first|refine blk_drewN ?_ _|refine blk_drew ?_|refine blk_alloc ?_ _));refine blk_far ?_ NB283_288.out _;(with_reducible repeat (first|refine blk_drewN ?_ _|refine blk_drew ?_|refine blk_alloc ?_ _));refine blk_far ?_ NB283_288.out _;(with_reducible repeat (first|refine blk_drewN ?_ _|refine blk_drew ?_|refine blk_alloc ?_ _));refine blk_far ?_ NB283_288.out _;(with_reducible repeat (first|refine blk_drewN ?_ _|refine blk_drew ?_|refine blk_alloc ?_ _));refine blk_far ?_ NB283_288.out _;(with_reducible repeat (first|refine blk_drewN ?_ _|refine blk_drew ?_|refine blk_alloc ?_ _));exact BK283.out⟩,⟨by (with_reducible repeat (first|refine blk_drewN ?_ _|refine blk_drew ?_|refine blk_alloc ?_ _));refine blk_far ?_ NB286_288.out _;(with_reducible repeat (first|refine blk_drewN ?_ _|refine blk_drew ?_|refine blk_alloc ?_ _));refine blk_far ?_ NB286_288.out _;(with_reducible repeat (first|refine blk_drewN ?_ _|refine blk_drew ?_|refine blk_alloc ?_ _));refine blk_far ?_ NB286_288.out _;(with_reducible repeat (first|refine blk_drewN ?_ _|refine blk_drew ?_|refine blk_alloc ?_ _));refine blk_far ?_ NB286_288.out _;(with_reducible repeat (first|refine blk_drewN ?_ _|refine blk_drew ?_|refine blk_alloc ?_ _));refine blk_far ?_ NB286_288.out _;(with_reducible repeat (first|refine blk_drewN ?_ _|refine blk_drew ?_|refine blk_alloc ?_ _));refine blk_far ?_ NB286_288.out _;(with_reducible repeat (first|refine blk_drewN ?_ _|refine blk_drew ?_|refine blk_alloc ?_ _));refine blk_far ?_ NB286_288.out _;(with_reducible repeat (first|refine blk_drewN ?_ _|refine blk_drew ?_|refine blk_alloc ?_ _));refine blk_far ?_ NB286_288.out _;(with_reducible repeat (first|refine blk_drewN ?_ _|refine blk_drew ?_|refine blk_alloc ?_ _));refine blk_far ?_ NB286_288.out _;(with_reducible repeat (first|refine blk_drewN ?_ _|refine blk_drew ?_|refine blk_alloc ?_ _));refine blk_far ?_ NB286_288.out _;(with_reducible repeat (first|refine blk_drewN ?_ _|refine blk_drew ?_|refine blk_alloc ?_ _));exact BK286.out⟩,⟨by repeat (first|(with_reducible first|exact HB.out|apply below_alloc|apply pw_below_drewN|apply below_drew1|refine below_set ?_ GE281.out|refine below_set ?_ GE283.out|refine below_set ?_ GE286.out|refine below_set ?_ GE288.out)|exact HB.out)⟩⟩
                       ·rw [if_neg c62] at H
                        have c62b0 : (((rd_T36 l0 x77_4).f0) == ((rd_T40 t274 x65_3).f1)) = false:=beq_eq_false_iff_ne.mpr c62
                        have c62b1 : (((rd_T36 l0 x77_4).f0) != ((rd_T40 t274 x65_3).f1)) = true:=bne_iff_ne.mpr c62
                        have H' := Aside0.mk H
                        clear H
                        have p287 : 0 ≤ (x77_4 : Int):=of_decide_eq_true (by first|(with_reducible assumption)|assumption)
                        have q287 : x77_4 < (l0.length : Int):=of_decide_eq_true (by first|(with_reducible assumption)|assumption)
                        obtain ⟨ad287,e287,hx287_0,hx287_1,hx287_2,hx287_3,hx287_4,hx287_5,hx287_6,hx287_7,hx287_8,hx287_9⟩:=at_T36 HR0.out x77_4 p287 q287
                        obtain rfl : ad282 = ad287 := (by injection e287)
                        replace hx287_0:=(HB.out.cell (World.block_lt_of_cell? w _ hx287_0)).trans hx287_0
                        replace hx287_1:=(HB.out.cell (World.block_lt_of_cell? w _ hx287_1)).trans hx287_1
                        replace hx287_2:=(HB.out.cell (World.block_lt_of_cell? w _ hx287_2)).trans hx287_2
                        replace hx287_3:=(HB.out.cell (World.block_lt_of_cell? w _ hx287_3)).trans hx287_3
                        replace hx287_4:=(HB.out.cell (World.block_lt_of_cell? w _ hx287_4)).trans hx287_4
                        replace hx287_5:=(HB.out.cell (World.block_lt_of_cell? w _ hx287_5)).trans hx287_5
                        replace hx287_6:=(HB.out.cell (World.block_lt_of_cell? w _ hx287_6)).trans hx287_6
                        replace hx287_7:=(HB.out.cell (World.block_lt_of_cell? w _ hx287_7)).trans hx287_7
                        replace hx287_8:=(HB.out.cell (World.block_lt_of_cell? w _ hx287_8)).trans hx287_8
                        replace hx287_9:=(HB.out.cell (World.block_lt_of_cell? w _ hx287_9)).trans hx287_9
                        replace p287 := eq_true p287
                        replace q287 := eq_true q287
                        go_wp2_with (first|((with_reducible refine gate_dst (N:=18) rfl ?_);refine box_event ?hg (N:=18) ?hd (cs:=#[.int .i64 0,.int .i64 0,.bool false,.int .i64 0,.int .i64 0,.int .i64 0,.int .i64 0,.int .i64 0,.bool false,.string (⟨#[]⟩ : ByteArray)]) (t:=36) ?hr ?_;(case hd => rfl);(case hg => rfl);(case hr => first|(go_simp;done)|(go_simp;rfl));intro gb288 hg w108 hbox hb;have n0_:=Aside0.mk (Kd.R_below (by (with_reducible repeat (first|apply Kd.R_alloc|apply Kd.R_drewN|apply Kd.R_drew));exact HO_63.out) hb);have n1_:=Aside0.mk (Kd.R_below (by (with_reducible repeat (first|apply Kd.R_alloc|apply Kd.R_drewN|apply Kd.R_drew));exact HO_282000.out) hb);have n2_:=Aside0.mk (Kd.R_below (by (with_reducible repeat (first|apply Kd.R_alloc|apply Kd.R_drewN|apply Kd.R_drew));exact HO_282001.out) hb);have n3_:=Aside0.mk (blk_below (g:=gb281) (o:=.cells #[.slice (some ad285) t274.length co15,.slice Ao17 t277.length co17,.int .i64 t280] 28 (0,0)) (by (with_reducible repeat (first|refine blk_drewN ?_ _|refine blk_drew ?_|refine blk_alloc ?_ _));exact BK281.out) hb);have n4_:=Aside0.mk (blk_below (g:=gb283) (o:=.cells #[.int .i64 ((rd_T36 l0 x35_1).f0),.int .i64 ((rd_T36 l0 x35_1).f1),.bool ((rd_T36 l0 x35_1).f2),.int .i64 ((rd_T36 l0 x35_1).f3.f0),.int .i64 ((rd_T36 l0 x35_1).f3.f1),.int .i64 ((rd_T36 l0 x35_1).f3.f2),.int .i64 ((rd_T36 l0 x35_1).f3.f3),.int .i64 ((rd_T36 l0 x35_1).f3.f4),.bool ((rd_T36 l0 x35_1).f3.f5),.string ((rd_T36 l0 x35_1).f4)] 36 (0,0)) (by (with_reducible repeat (first|refine blk_drewN ?_ _|refine blk_drew ?_|refine blk_alloc ?_ _));exact BK283.out) hb);have n5_:=Aside0.mk (blk_below (g:=gb286) (o:=.cells #[.int .i64 ((rd_T40 t274 x65_3).f0),.int .i64 ((rd_T40 t274 x65_3).f1),.int .i64 ((rd_T40 t274 x65_3).f2)] 40 (0,0)) (by (with_reducible repeat (first|refine blk_drewN ?_ _|refine blk_drew ?_|refine blk_alloc ?_ _));exact BK286.out) hb);have n6_:=Aside0.mk (below_step (by repeat (first|(with_reducible first|exact HB.out|apply below_alloc|apply pw_below_drewN|apply below_drew1|refine below_set ?_ GE281.out|refine below_set ?_ GE283.out|refine below_set ?_ GE286.out)|exact HB.out)) hb);have n7_:=Aside0.mk (hbox);have n8_:=Aside0.mk ((by rw [hg];exact (below_size (by repeat (first|(with_reducible first|exact HB.out|apply below_alloc|apply pw_below_drewN|apply below_drew1|refine below_set ?_ GE281.out|refine below_set ?_ GE283.out|refine below_set ?_ GE286.out)|exact HB.out))) : w.heap.size ≤ gb288));have n9_:=Aside0.mk ((by rw [hg];exact (below_size (by repeat (first|(with_reducible first|exact HB.out|apply below_alloc|apply pw_below_drewN|apply below_drew1|refine below_set ?_ GE281.out|refine below_set ?_ GE283.out|refine below_set ?_ GE286.out)|exact HB.out))) : w.heap.size ≤ gb288));have n10_:=Aside0.mk ((by rw [hg];exact Nat.ne_of_lt (blk_lt (g:=gb281) (o:=.cells #[.slice (some ad285) t274.length co15,.slice Ao17 t277.length co17,.int .i64 t280] 28 (0,0)) (by (with_reducible repeat (first|refine blk_drewN ?_ _|refine blk_drew ?_|refine blk_alloc ?_ _));exact BK281.out)) : gb281 ≠ gb288));have n11_:=Aside0.mk ((by rw [hg];exact Nat.ne_of_gt (blk_lt (g:=gb281) (o:=.cells #[.slice (some ad285) t274.length co15,.slice Ao17 t277.length co17,.int .i64 t280] 28 (0,0)) (by (with_reducible repeat (first|refine blk_drewN ?_ _|refine blk_drew ?_|refine blk_alloc ?_ _));exact BK281.out)) : gb288 ≠ gb281));have n12_:=Aside0.mk ((by rw [hg];exact Nat.ne_of_lt (blk_lt (g:=gb283) (o:=.cells #[.int .i64 ((rd_T36 l0 x35_1).f0),.int .i64 ((rd_T36 l0 x35_1).f1),.bool ((rd_T36 l0 x35_1).f2),.int .i64 ((rd_T36 l0 x35_1).f3.f0),.int .i64 ((rd_T36 l0 x35_1).f3.f1),.int .i64 ((rd_T36 l0 x35_1).f3.f2),.int .i64 ((rd_T36 l0 x35_1).f3.f3),.int .i64 ((rd_T36 l0 x35_1).f3.f4),.bool ((rd_T36 l0 x35_1).f3.f5),.string ((rd_T36 l0 x35_1).f4)] 36 (0,0)) (by (with_reducible repeat (first|refine blk_drewN ?_ _|refine blk_drew ?_|refine blk_alloc ?_ _));exact BK283.out)) : gb283 ≠ gb288));have n13_:=Aside0.mk ((by rw [hg];exact Nat.ne_of_gt (blk_lt (g:=gb283) (o:=.cells #[.int .i64 ((rd_T36 l0 x35_1).f0),.int .i64 ((rd_T36 l0 x35_1).f1),.bool ((rd_T36 l0 x35_1).f2),.int .i64 ((rd_T36 l0 x35_1).f3.f0),.int .i64 ((rd_T36 l0 x35_1).f3.f1),.int .i64 ((rd_T36 l0 x35_1).f3.f2),.int .i64 ((rd_T36 l0 x35_1).f3.f3),.int .i64 ((rd_T36 l0 x35_1).f3.f4),.bool ((rd_T36 l0 x35_1).f3.f5),.string ((rd_T36 l0 x35_1).f4)] 36 (0,0)) (by (with_reducible repeat (first|refine blk_drewN ?_ _|refine blk_drew ?_|refine blk_alloc ?_ _));exact BK283.out)) : gb288 ≠ gb283));have n14_:=Aside0.mk ((by rw [hg];exact Nat.ne_of_lt (blk_lt (g:=gb286) (o:=.cells #[.int .i64 ((rd_T40 t274 x65_3).f0),.int .i64 ((rd_T40 t274 x65_3).f1),.int .i64 ((rd_T40 t274 x65_3).f2)] 40 (0,0)) (by (with_reducible repeat (first|refine blk_drewN ?_ _|refine blk_drew ?_|refine blk_alloc ?_ _));exact BK286.out)) : gb286 ≠ gb288));have n15_:=Aside0.mk ((by rw [hg];exact Nat.ne_of_gt (blk_lt (g:=gb286) (o:=.cells #[.int .i64 ((rd_T40 t274 x65_3).f0),.int .i64 ((rd_T40 t274 x65_3).f1),.int .i64 ((rd_T40 t274 x65_3).f2)] 40 (0,0)) (by (with_reducible repeat (first|refine blk_drewN ?_ _|refine blk_drew ?_|refine blk_alloc ?_ _));exact BK286.out)) : gb288 ≠ gb286));clear HO_63;clear HO_282000;clear HO_282001;clear BK281;clear BK283;clear BK286;clear HB;have HO_63:=n0_;have HO_282000:=n1_;have HO_282001:=n2_;have BK281:=n3_;have BK283:=n4_;have BK286:=n5_;have HB:=n6_;have BK288:=n7_;have GW288:=n8_;have GE288:=n9_;have NB281_288:=n10_;have NB288_281:=n11_;have NB283_288:=n12_;have NB288_283:=n13_;have NB286_288:=n14_;have NB288_286:=n15_;clear n0_ n1_ n2_ n3_ n4_ n5_ n6_ n7_ n8_ n9_ n10_ n11_ n12_ n13_ n14_ n15_;clear hb hbox hg;have hnb109:=NB288_281.out;have hnc109:=NB281_288.out;have hnb110:=NB288_283.out;have hnc110:=NB283_288.out;have hnb111:=NB288_286.out;have hnc111:=NB286_288.out;have hcz112_0 : w108.cell? ⟨gb288,0,none⟩ = some (.int .i64 0):=(blk_cell BK288.out 0).trans rfl;have hcz112_1 : w108.cell? ⟨gb288,1,none⟩ = some (.int .i64 0):=(blk_cell BK288.out 1).trans rfl;have hcz112_2 : w108.cell? ⟨gb288,2,none⟩ = some (.bool false):=(blk_cell BK288.out 2).trans rfl;have hcz112_3 : w108.cell? ⟨gb288,3,none⟩ = some (.int .i64 0):=(blk_cell BK288.out 3).trans rfl;have hcz112_4 : w108.cell? ⟨gb288,4,none⟩ = some (.int .i64 0):=(blk_cell BK288.out 4).trans rfl;have hcz112_5 : w108.cell? ⟨gb288,5,none⟩ = some (.int .i64 0):=(blk_cell BK288.out 5).trans rfl;have hcz112_6 : w108.cell? ⟨gb288,6,none⟩ = some (.int .i64 0):=(blk_cell BK288.out 6).trans rfl;have hcz112_7 : w108.cell? ⟨gb288,7,none⟩ = some (.int .i64 0):=(blk_cell BK288.out 7).trans rfl;have hcz112_8 : w108.cell? ⟨gb288,8,none⟩ = some (.bool false):=(blk_cell BK288.out 8).trans rfl;have hcz112_9 : w108.cell? ⟨gb288,9,none⟩ = some (.string (⟨#[]⟩ : ByteArray)):=(blk_cell BK288.out 9).trans rfl;have hfz112_0:=blk_frozen BK288.out 0;have hfz112_1:=blk_frozen BK288.out 1;have hfz112_2:=blk_frozen BK288.out 2;have hfz112_3:=blk_frozen BK288.out 3;have hfz112_4:=blk_frozen BK288.out 4;have hfz112_5:=blk_frozen BK288.out 5;have hfz112_6:=blk_frozen BK288.out 6;have hfz112_7:=blk_frozen BK288.out 7;have hfz112_8:=blk_frozen BK288.out 8;have hfz112_9:=blk_frozen BK288.out 9;have hnb113:=NB286_281.out;have hnc113:=NB281_286.out;have hnb114:=NB286_283.out;have hnc114:=NB283_286.out;have hcz115_0 : w108.cell? ⟨gb286,0,none⟩ = some (.int .i64 ((rd_T40 t274 x65_3).f0)):=(blk_cell BK286.out 0).trans rfl;have hcz115_1 : w108.cell? ⟨gb286,1,none⟩ = some (.int .i64 ((rd_T40 t274 x65_3).f1)):=(blk_cell BK286.out 1).trans rfl;have hcz115_2 : w108.cell? ⟨gb286,2,none⟩ = some (.int .i64 ((rd_T40 t274 x65_3).f2)):=(blk_cell BK286.out 2).trans rfl;have hfz115_0:=blk_frozen BK286.out 0;have hfz115_1:=blk_frozen BK286.out 1;have hfz115_2:=blk_frozen BK286.out 2))
                        go_roundg k4
                        case measure => have:=HK1.out;have:=HJ20.out;have:=HK3.out;have:=HK4.out;omega
                        case rel => exact ⟨(false),(wrap64 (x77_4 + 1)),(by first|rfl|(simp;done)|(simp [*];done)),(by first|rfl|(simp;done)|(simp [*];done)),H',⟨by have:=HK1.out;have:=HJ20.out;have:=HK3.out;have:=HK4.out;omega⟩,⟨by (with_reducible repeat (first|apply Kd.R_alloc|apply Kd.R_drewN|apply Kd.R_drew));exact Kd.R_mono (Kd.R_far (p:=⟨gb288,9,none⟩) (Kd.R_far (p:=⟨gb288,8,none⟩) (Kd.R_far (p:=⟨gb288,7,none⟩) (Kd.R_far (p:=⟨gb288,6,none⟩) (Kd.R_far (p:=⟨gb288,5,none⟩) (Kd.R_far (p:=⟨gb288,4,none⟩) (Kd.R_far (p:=⟨gb288,3,none⟩) (Kd.R_far (p:=⟨gb288,2,none⟩) (Kd.R_far (p:=⟨gb288,1,none⟩) (Kd.R_far (p:=⟨gb288,0,none⟩) (Kd.R_types HO_63.out BK288.out (by decide)) (fun _ hk => hk.2) (.int .i64 ((rd_T36 l0 x77_4).f0))) (fun _ hk => hk.2) (.int .i64 ((rd_T36 l0 x77_4).f1))) (fun _ hk => hk.2) (.bool ((rd_T36 l0 x77_4).f2))) (fun _ hk => hk.2) (.int .i64 ((rd_T36 l0 x77_4).f3.f0))) (fun _ hk => hk.2) (.int .i64 ((rd_T36 l0 x77_4).f3.f1))) (fun _ hk => hk.2) (.int .i64 ((rd_T36 l0 x77_4).f3.f2))) (fun _ hk => hk.2) (.int .i64 ((rd_T36 l0 x77_4).f3.f3))) (fun _ hk => hk.2) (.int .i64 ((rd_T36 l0 x77_4).f3.f4))) (fun _ hk => hk.2) (.bool ((rd_T36 l0 x77_4).f3.f5))) (fun _ hk => hk.2) (.string ((rd_T36 l0 x77_4).f4))) (fun _ hk => hk.1)⟩,⟨by (with_reducible repeat (first|apply Kd.R_alloc|apply Kd.R_drewN|apply Kd.R_drew));exact Kd.R_mono (Kd.R_far (p:=⟨gb288,9,none⟩) (Kd.R_far (p:=⟨gb288,8,none⟩) (Kd.R_far (p:=⟨gb288,7,none⟩) (Kd.R_far (p:=⟨gb288,6,none⟩) (Kd.R_far (p:=⟨gb288,5,none⟩) (Kd.R_far (p:=⟨gb288,4,none⟩) (Kd.R_far (p:=⟨gb288,3,none⟩) (Kd.R_far (p:=⟨gb288,2,none⟩) (Kd.R_far (p:=⟨gb288,1,none⟩) (Kd.R_far (p:=⟨gb288,0,none⟩) (Kd.R_types HO_282000.out BK288.out (by decide)) (fun _ hk => hk.2) (.int .i64 ((rd_T36 l0 x77_4).f0))) (fun _ hk => hk.2) (.int .i64 ((rd_T36 l0 x77_4).f1))) (fun _ hk => hk.2) (.bool ((rd_T36 l0 x77_4).f2))) (fun _ hk => hk.2) (.int .i64 ((rd_T36 l0 x77_4).f3.f0))) (fun _ hk => hk.2) (.int .i64 ((rd_T36 l0 x77_4).f3.f1))) (fun _ hk => hk.2) (.int .i64 ((rd_T36 l0 x77_4).f3.f2))) (fun _ hk => hk.2) (.int .i64 ((rd_T36 l0 x77_4).f3.f3))) (fun _ hk => hk.2) (.int .i64 ((rd_T36 l0 x77_4).f3.f4))) (fun _ hk => hk.2) (.bool ((rd_T36 l0 x77_4).f3.f5))) (fun _ hk => hk.2) (.string ((rd_T36 l0 x77_4).f4))) (fun _ hk => hk.1)⟩,⟨by (with_reducible repeat (first|apply Kd.R_alloc|apply Kd.R_drewN|apply Kd.R_drew));exact Kd.R_mono (Kd.R_far (p:=⟨gb288,9,none⟩) (Kd.R_far (p:=⟨gb288,8,none⟩) (Kd.R_far (p:=⟨gb288,7,none⟩) (Kd.R_far (p:=⟨gb288,6,none⟩) (Kd.R_far (p:=⟨gb288,5,none⟩) (Kd.R_far (p:=⟨gb288,4,none⟩) (Kd.R_far (p:=⟨gb288,3,none⟩) (Kd.R_far (p:=⟨gb288,2,none⟩) (Kd.R_far (p:=⟨gb288,1,none⟩) (Kd.R_far (p:=⟨gb288,0,none⟩) (Kd.R_types HO_282001.out BK288.out (by decide)) (fun _ hk => hk.2) (.int .i64 ((rd_T36 l0 x77_4).f0))) (fun _ hk => hk.2) (.int .i64 ((rd_T36 l0 x77_4).f1))) (fun _ hk => hk.2) (.bool ((rd_T36 l0 x77_4).f2))) (fun _ hk => hk.2) (.int .i64 ((rd_T36 l0 x77_4).f3.f0))) (fun _ hk => hk.2) (.int .i64 ((rd_T36 l0 x77_4).f3.f1))) (fun _ hk => hk.2) (.int .i64 ((rd_T36 l0 x77_4).f3.f2))) (fun _ hk => hk.2) (.int .i64 ((rd_T36 l0 x77_4).f3.f3))) (fun _ hk => hk.2) (.int .i64 ((rd_T36 l0 x77_4).f3.f4))) (fun _ hk => hk.2) (.bool ((rd_T36 l0 x77_4).f3.f5))) (fun _ hk => hk.2) (.string ((rd_T36 l0 x77_4).f4))) (fun _ hk => trivial)⟩,⟨by (with_reducible repeat (first|refine blk_drewN ?_ _|refine blk_drew ?_|refine blk_alloc ?_ _));refine blk_far ?_ NB281_288.out _;(with_reducible repeat (first|refine blk_drewN ?_ _|refine blk_drew ?_|refine blk_alloc ?_ _));refine blk_far ?_ NB281_288.out _;(with_reducible repeat (first|refine blk_drewN ?_ _|refine blk_drew ?_|refine blk_alloc ?_ _));refine blk_far ?_ NB281_288.out _;(with_reducible repeat (first|refine blk_drewN ?_ _|refine blk_drew ?_|refine blk_alloc ?_ _));refine blk_far ?_ NB281_288.out _;(with_reducible repeat (first|refine blk_drewN ?_ _|refine blk_drew ?_|refine blk_alloc ?_ _));refine blk_far ?_ NB281_288.out _;(with_reducible repeat (first|refine blk_drewN ?_ _|refine blk_drew ?_|refine blk_alloc ?_ _));refine blk_far ?_ NB281_288.out _;(with_reducible repeat (first|refine blk_drewN ?_ _|refine blk_drew ?_|refine blk_alloc ?_ _));refine blk_far ?_ NB281_288.out _;(with_reducible repeat (first|refine blk_drewN ?_ _|refine blk_drew ?_|refine blk_alloc ?_ _));refine blk_far ?_ NB281_288.out _;(with_reducible repeat (first|refine blk_drewN ?_ _|refine blk_drew ?_|refine blk_alloc ?_ _));refine blk_far ?_ NB281_288.out _;(with_reducible repeat (first|refine blk_drewN ?_ _|refine blk_drew ?_|refine blk_alloc ?_ _));refine blk_far ?_ NB281_288.out _;(with_reducible repeat (first|refine blk_drewN ?_ _|refine blk_drew ?_|refine blk_alloc ?_ _));exact BK281.out⟩,⟨by (with_reducible repeat (first|refine blk_drewN ?_ _|refine blk_drew ?_|refine blk_alloc ?_ _));refine blk_far ?_ NB283_288.out _;(with_reducible repeat (first|refine blk_drewN ?_ _|refine blk_drew ?_|refine blk_alloc ?_ _));refine blk_far ?_ NB283_288.out _;(with_reducible repeat (first|refine blk_drewN ?_ _|refine blk_drew ?_|refine blk_alloc ?_ _));refine blk_far ?_ NB283_288.out _;(with_reducible repeat (first|refine blk_drewN ?_ _|refine blk_drew ?_|refine blk_alloc ?_ _));refine blk_far ?_ NB283_288.out _;(with_reducible repeat (first|refine blk_drewN ?_ _|refine blk_drew ?_|refine blk_alloc ?_ _));refine blk_far ?_ NB283_288.out _;(with_reducible repeat (first|refine blk_drewN ?_ _|refine blk_drew ?_|refine blk_alloc ?_ _));refine blk_far ?_ NB283_288.out _;(with_reducible repeat (first|refine blk_drewN ?_ _|refine blk_drew ?_|refine blk_alloc ?_ _));refine blk_far ?_ NB283_288.out _;(with_reducible repeat (first|refine blk_drewN ?_ _|refine blk_drew ?_|refine blk_alloc ?_ _));refine blk_far ?_ NB283_288.out _;(with_reducible repeat (first|refine blk_drewN ?_ _|refine blk_drew ?_|refine blk_alloc ?_ _));refine blk_far ?_ NB283_288.out _;(with_reducible repeat (first|refine blk_drewN ?_ _|refine blk_drew ?_|refine blk_alloc ?_ _));refine blk_far ?_ NB283_288.out _;(with_reducible repeat (first|refine blk_drewN ?_ _|refine blk_drew ?_|refine blk_alloc ?_ _));exact BK283.out⟩,⟨by (with_reducible repeat (first|refine blk_drewN ?_ _|refine blk_drew ?_|refine blk_alloc ?_ _));refine blk_far ?_ NB286_288.out _;(with_reducible repeat (first|refine blk_drewN ?_ _|refine blk_drew ?_|refine blk_alloc ?_ _));refine blk_far ?_ NB286_288.out _;(with_reducible repeat (first|refine blk_drewN ?_ _|refine blk_drew ?_|refine blk_alloc ?_ _));refine blk_far ?_ NB286_288.out _;(with_reducible repeat (first|refine blk_drewN ?_ _|refine blk_drew ?_|refine blk_alloc ?_ _));refine blk_far ?_ NB286_288.out _;(with_reducible repeat (first|refine blk_drewN ?_ _|refine blk_drew ?_|refine blk_alloc ?_ _));refine blk_far ?_ NB286_288.out _;(with_reducible repeat (first|refine blk_drewN ?_ _|refine blk_drew ?_|refine blk_alloc ?_ _));refine blk_far ?_ NB286_288.out _;(with_reducible repeat (first|refine blk_drewN ?_ _|refine blk_drew ?_|refine blk_alloc ?_ _));refine blk_far ?_ NB286_288.out _;(with_reducible repeat (first|refine blk_drewN ?_ _|refine blk_drew ?_|refine blk_alloc ?_ _));refine blk_far ?_ NB286_288.out _;(with_reducible repeat (first|refine blk_drewN ?_ _|refine blk_drew ?_|refine blk_alloc ?_ _));refine blk_far ?_ NB286_288.out _;(with_reducible repeat (first|refine blk_drewN ?_ _|refine blk_drew ?_|refine blk_alloc ?_ _));refine blk_far ?_ NB286_288.out _;(with_reducible repeat (first|refine blk_drewN ?_ _|refine blk_drew ?_|refine blk_alloc ?_ _));exact BK286.out⟩,⟨by repeat (first|(with_reducible first|exact HB.out|apply below_alloc|apply pw_below_drewN|apply below_drew1|refine below_set ?_ GE281.out|refine below_set ?_ GE283.out|refine below_set ?_ GE286.out|refine below_set ?_ GE288.out)|exact HB.out)⟩⟩
                     ·rw [if_neg c55] at H
                      exact absurd H (by simp)
                    ·rw [if_neg c54] at H
                     exact absurd H (by simp)
                   ·rw [if_neg c53] at H
                    have c53b0 : decide (x77_4 < (l0.length : Int)) = false := decide_eq_false c53
                    clear c53
                    have H' := Aside0.mk H
                    clear H
                    have hnb116 := NB281_283.out
                    have hnc116 := NB283_281.out
                    have hnb117 := NB281_286.out
                    have hnc117 := NB286_281.out
                    have hcz118_0 : wr.cell? ⟨gb281,0,none⟩ = some (.slice (some ad285) t274.length co15):=(blk_cell BK281.out 0).trans rfl
                    have hcz118_1 : wr.cell? ⟨gb281,1,none⟩ = some (.slice Ao17 t277.length co17):=(blk_cell BK281.out 1).trans rfl
                    have hcz118_2 : wr.cell? ⟨gb281,2,none⟩ = some (.int .i64 t280):=(blk_cell BK281.out 2).trans rfl
                    have hfz118_0 := blk_frozen BK281.out 0
                    have hfz118_1 := blk_frozen BK281.out 1
                    have hfz118_2 := blk_frozen BK281.out 2
                    go_wp2
                    go_loopg [123] k4 (fun kq v123 w' => ∃ (x123_5 : Int),v123 = .int .i64 x123_5 ∧ Aside0 (almshouselaw17_HealKeeps.l3 kq l0 a1 a2 a3 a4 x14_4 l0 (l0.length : Int) x35_1 t274 (t274.length : Int) x65_3 t277 (t277.length : Int) x123_5 t274 t277 t280 ((rd_T36 l0 x35_1).f0) ((rd_T36 l0 x35_1).f1) ((rd_T36 l0 x35_1).f2) ((rd_T36 l0 x35_1).f3.f0) ((rd_T36 l0 x35_1).f3.f1) ((rd_T36 l0 x35_1).f3.f2) ((rd_T36 l0 x35_1).f3.f3) ((rd_T36 l0 x35_1).f3.f4) ((rd_T36 l0 x35_1).f3.f5) ((rd_T36 l0 x35_1).f4) ((rd_T40 t274 x65_3).f0) ((rd_T40 t274 x65_3).f1) ((rd_T40 t274 x65_3).f2) = some r) ∧ Aside0 (kq ≤ k4) ∧ Aside0 (Kd.R k40 40 w' w.heap.size (fun k_ => k_ ≠ gb286) (.slice (some ad285) t274.length co15) t274) ∧ Aside0 (Kd.R (Kd.int .i64) 3 w' w.heap.size (fun _ => True) (.slice Ao17 t277.length co17) t277) ∧ Aside0 (Kd.R k40 40 w' w.heap.size (fun k_ => k_ ≠ gb286) (.slice (some ad285) t274.length co15) t274) ∧ Aside0 (Kd.R (Kd.int .i64) 3 w' w.heap.size (fun _ => True) (.slice Ao17 t277.length co17) t277) ∧ Aside0 (w'.heap[gb281]? = some (.cells #[(.slice (some ad285) t274.length co15),(.slice Ao17 t277.length co17),.int .i64 t280] 28 (0,0))) ∧ Aside0 (w'.heap[gb283]? = some (.cells #[.int .i64 ((rd_T36 l0 x35_1).f0),.int .i64 ((rd_T36 l0 x35_1).f1),.bool ((rd_T36 l0 x35_1).f2),.int .i64 ((rd_T36 l0 x35_1).f3.f0),.int .i64 ((rd_T36 l0 x35_1).f3.f1),.int .i64 ((rd_T36 l0 x35_1).f3.f2),.int .i64 ((rd_T36 l0 x35_1).f3.f3),.int .i64 ((rd_T36 l0 x35_1).f3.f4),.bool ((rd_T36 l0 x35_1).f3.f5),.string ((rd_T36 l0 x35_1).f4)] 36 (0,0))) ∧ Aside0 (w'.heap[gb286]? = some (.cells #[.int .i64 ((rd_T40 t274 x65_3).f0),.int .i64 ((rd_T40 t274 x65_3).f1),.int .i64 ((rd_T40 t274 x65_3).f2)] 40 (0,0))) ∧ Aside0 (Below w.heap.size w w'))
                    case atStart => exact ⟨(0),(by first|rfl|(simp;done)|(simp [*];done)),H',⟨Nat.le_refl _⟩,⟨by (with_reducible repeat (first|apply Kd.R_alloc|apply Kd.R_drewN|apply Kd.R_drew));exact HO_63.out⟩,⟨by (with_reducible repeat (first|apply Kd.R_alloc|apply Kd.R_drewN|apply Kd.R_drew));exact HO_282001.out⟩,⟨by (with_reducible repeat (first|apply Kd.R_alloc|apply Kd.R_drewN|apply Kd.R_drew));exact HO_282000.out⟩,⟨by (with_reducible repeat (first|apply Kd.R_alloc|apply Kd.R_drewN|apply Kd.R_drew));exact HO_282001.out⟩,⟨by (with_reducible repeat (first|refine blk_drewN ?_ _|refine blk_drew ?_|refine blk_alloc ?_ _));exact BK281.out⟩,⟨by (with_reducible repeat (first|refine blk_drewN ?_ _|refine blk_drew ?_|refine blk_alloc ?_ _));exact BK283.out⟩,⟨by (with_reducible repeat (first|refine blk_drewN ?_ _|refine blk_drew ?_|refine blk_alloc ?_ _));exact BK286.out⟩,⟨by repeat (first|(with_reducible first|exact HB.out|apply below_alloc|apply pw_below_drewN|apply below_drew1|refine below_set ?_ GE281.out|refine below_set ?_ GE283.out|refine below_set ?_ GE286.out)|exact HB.out)⟩⟩
                    case round =>
                     clear H'
                     try clear c1
                     try clear c2
                     try clear p2
                     try clear q2
                     try clear hx2
                     try clear c3
                     try clear c4
                     try clear c5
                     try clear c6
                     try clear p6
                     try clear c7
                     try clear c8
                     try clear c9
                     try clear c10
                     try clear c11
                     try clear c18
                     try clear c18b0
                     try clear c19
                     try clear c19b0
                     try clear c20
                     try clear c20b0
                     try clear c23
                     try clear c25
                     try clear c25b0
                     try clear c26
                     try clear c28
                     try clear c28b0
                     try clear p28
                     try clear q28
                     try clear hx28
                     try clear c29
                     try clear c32
                     try clear c33
                     try clear c37
                     try clear c40
                     try clear c41
                     try clear c43
                     try clear c43b0
                     try clear c44
                     try clear c44b0
                     try clear c45
                     try clear c45b0
                     try clear c46
                     try clear c46b0
                     try clear c46b1
                     try clear c48
                     try clear c49
                     try clear c51
                     try clear c53
                     try clear c53b0
                     try clear c54
                     try clear c54b0
                     try clear c55
                     try clear c55b0
                     try clear c56
                     try clear c58
                     try clear c59
                     try clear c60
                     try clear c62
                     try clear c62b0
                     try clear c62b1
                     try clear c63
                     try clear c63b0
                     try clear c63b1
                     try clear p64
                     try clear c65
                     try clear c66
                     try clear c66b0
                     try clear c66b1
                     try clear c68
                     try clear c69
                     try clear c70
                     try clear c72
                     try clear c73
                     try clear c78
                     try clear c81
                     try clear c82
                     try clear c83
                     try clear c85
                     try clear c86
                     try clear c92
                     try clear c93
                     try clear c94
                     try clear c96
                     try clear c97
                     try clear c101
                     try clear c102
                     try clear c103
                     try clear c105
                     try clear c106
                     try clear c109
                     try clear c110
                     try clear c111
                     try clear c113
                     try clear c114
                     try clear c116
                     try clear c117
                     try clear hcz104_0
                     try clear hcz104_1
                     try clear hcz104_2
                     try clear hcz104_3
                     try clear hcz104_4
                     try clear hcz104_5
                     try clear hcz104_6
                     try clear hcz104_7
                     try clear hcz104_8
                     try clear hcz104_9
                     try clear hcz107_0
                     try clear hcz107_1
                     try clear hcz107_2
                     try clear hcz112_0
                     try clear hcz112_1
                     try clear hcz112_2
                     try clear hcz112_3
                     try clear hcz112_4
                     try clear hcz112_5
                     try clear hcz112_6
                     try clear hcz112_7
                     try clear hcz112_8
                     try clear hcz112_9
                     try clear hcz115_0
                     try clear hcz115_1
                     try clear hcz115_2
                     try clear hcz118_0
                     try clear hcz118_1
                     try clear hcz118_2
                     try clear hcz16_0
                     try clear hcz16_1
                     try clear hcz16_2
                     try clear hcz24_0
                     try clear hcz24_1
                     try clear hcz24_2
                     try clear hcz24_3
                     try clear hcz24_4
                     try clear hcz24_5
                     try clear hcz24_6
                     try clear hcz24_7
                     try clear hcz24_8
                     try clear hcz24_9
                     try clear hcz27_0
                     try clear hcz27_1
                     try clear hcz27_2
                     try clear hcz27_3
                     try clear hcz27_4
                     try clear hcz27_5
                     try clear hcz27_6
                     try clear hcz27_7
                     try clear hcz27_8
                     try clear hcz27_9
                     try clear hcz30_0
                     try clear hcz30_1
                     try clear hcz30_2
                     try clear hcz30_3
                     try clear hcz30_4
                     try clear hcz30_5
                     try clear hcz30_6
                     try clear hcz30_7
                     try clear hcz30_8
                     try clear hcz30_9
                     try clear hcz34_0
                     try clear hcz34_1
                     try clear hcz34_2
                     try clear hcz34_3
                     try clear hcz34_4
                     try clear hcz34_5
                     try clear hcz34_6
                     try clear hcz34_7
                     try clear hcz34_8
                     try clear hcz34_9
                     try clear hcz36_0
                     try clear hcz36_1
                     try clear hcz36_2
                     try clear hcz36_3
                     try clear hcz36_4
                     try clear hcz36_5
                     try clear hcz36_6
                     try clear hcz36_7
                     try clear hcz36_8
                     try clear hcz36_9
                     try clear hcz38_0
                     try clear hcz38_1
                     try clear hcz38_2
                     try clear hcz38_3
                     try clear hcz38_4
                     try clear hcz38_5
                     try clear hcz38_6
                     try clear hcz38_7
                     try clear hcz38_8
                     try clear hcz38_9
                     try clear hcz42_0
                     try clear hcz42_1
                     try clear hcz42_2
                     try clear hcz50_0
                     try clear hcz50_1
                     try clear hcz50_2
                     try clear hcz52_0
                     try clear hcz52_1
                     try clear hcz52_2
                     try clear hcz52_3
                     try clear hcz52_4
                     try clear hcz52_5
                     try clear hcz52_6
                     try clear hcz52_7
                     try clear hcz52_8
                     try clear hcz52_9
                     try clear hcz61_0
                     try clear hcz61_1
                     try clear hcz61_2
                     try clear hcz61_3
                     try clear hcz61_4
                     try clear hcz61_5
                     try clear hcz61_6
                     try clear hcz61_7
                     try clear hcz61_8
                     try clear hcz61_9
                     try clear hcz71_0
                     try clear hcz71_1
                     try clear hcz71_2
                     try clear hcz71_3
                     try clear hcz71_4
                     try clear hcz71_5
                     try clear hcz71_6
                     try clear hcz71_7
                     try clear hcz71_8
                     try clear hcz71_9
                     try clear hcz74_0
                     try clear hcz74_1
                     try clear hcz74_2
                     try clear hcz76_0
                     try clear hcz76_1
                     try clear hcz76_2
                     try clear hcz76_3
                     try clear hcz76_4
                     try clear hcz76_5
                     try clear hcz76_6
                     try clear hcz76_7
                     try clear hcz76_8
                     try clear hcz76_9
                     try clear hcz77_0
                     try clear hcz77_1
                     try clear hcz77_2
                     try clear hcz79_0
                     try clear hcz79_1
                     try clear hcz79_2
                     try clear hcz79_3
                     try clear hcz79_4
                     try clear hcz79_5
                     try clear hcz79_6
                     try clear hcz79_7
                     try clear hcz79_8
                     try clear hcz79_9
                     try clear hcz84_0
                     try clear hcz84_1
                     try clear hcz84_2
                     try clear hcz84_3
                     try clear hcz84_4
                     try clear hcz84_5
                     try clear hcz84_6
                     try clear hcz84_7
                     try clear hcz84_8
                     try clear hcz84_9
                     try clear hcz87_0
                     try clear hcz87_1
                     try clear hcz87_2
                     try clear hcz89_0
                     try clear hcz89_1
                     try clear hcz89_2
                     try clear hcz89_3
                     try clear hcz89_4
                     try clear hcz89_5
                     try clear hcz89_6
                     try clear hcz89_7
                     try clear hcz89_8
                     try clear hcz89_9
                     try clear hcz90_0
                     try clear hcz90_1
                     try clear hcz90_2
                     try clear hcz95_0
                     try clear hcz95_1
                     try clear hcz95_2
                     try clear hcz95_3
                     try clear hcz95_4
                     try clear hcz95_5
                     try clear hcz95_6
                     try clear hcz95_7
                     try clear hcz95_8
                     try clear hcz95_9
                     try clear hcz98_0
                     try clear hcz98_1
                     try clear hcz98_2
                     try clear hfz104_0
                     try clear hfz104_1
                     try clear hfz104_2
                     try clear hfz104_3
                     try clear hfz104_4
                     try clear hfz104_5
                     try clear hfz104_6
                     try clear hfz104_7
                     try clear hfz104_8
                     try clear hfz104_9
                     try clear hfz107_0
                     try clear hfz107_1
                     try clear hfz107_2
                     try clear hfz112_0
                     try clear hfz112_1
                     try clear hfz112_2
                     try clear hfz112_3
                     try clear hfz112_4
                     try clear hfz112_5
                     try clear hfz112_6
                     try clear hfz112_7
                     try clear hfz112_8
                     try clear hfz112_9
                     try clear hfz115_0
                     try clear hfz115_1
                     try clear hfz115_2
                     try clear hfz118_0
                     try clear hfz118_1
                     try clear hfz118_2
                     try clear hfz16_0
                     try clear hfz16_1
                     try clear hfz16_2
                     try clear hfz24_0
                     try clear hfz24_1
                     try clear hfz24_2
                     try clear hfz24_3
                     try clear hfz24_4
                     try clear hfz24_5
                     try clear hfz24_6
                     try clear hfz24_7
                     try clear hfz24_8
                     try clear hfz24_9
                     try clear hfz27_0
                     try clear hfz27_1
                     try clear hfz27_2
                     try clear hfz27_3
                     try clear hfz27_4
                     try clear hfz27_5
                     try clear hfz27_6
                     try clear hfz27_7
                     try clear hfz27_8
                     try clear hfz27_9
                     try clear hfz30_0
                     try clear hfz30_1
                     try clear hfz30_2
                     try clear hfz30_3
                     try clear hfz30_4
                     try clear hfz30_5
                     try clear hfz30_6
                     try clear hfz30_7
                     try clear hfz30_8
                     try clear hfz30_9
                     try clear hfz34_0
                     try clear hfz34_1
                     try clear hfz34_2
                     try clear hfz34_3
                     try clear hfz34_4
                     try clear hfz34_5
                     try clear hfz34_6
                     try clear hfz34_7
                     try clear hfz34_8
                     try clear hfz34_9
                     try clear hfz36_0
                     try clear hfz36_1
                     try clear hfz36_2
                     try clear hfz36_3
                     try clear hfz36_4
                     try clear hfz36_5
                     try clear hfz36_6
                     try clear hfz36_7
                     try clear hfz36_8
                     try clear hfz36_9
                     try clear hfz38_0
                     try clear hfz38_1
                     try clear hfz38_2
                     try clear hfz38_3
                     try clear hfz38_4
                     try clear hfz38_5
                     try clear hfz38_6
                     try clear hfz38_7
                     try clear hfz38_8
                     try clear hfz38_9
                     try clear hfz42_0
                     try clear hfz42_1
                     try clear hfz42_2
                     try clear hfz50_0
                     try clear hfz50_1
                     try clear hfz50_2
                     try clear hfz52_0
                     try clear hfz52_1
                     try clear hfz52_2
                     try clear hfz52_3
                     try clear hfz52_4
                     try clear hfz52_5
                     try clear hfz52_6
                     try clear hfz52_7
                     try clear hfz52_8
                     try clear hfz52_9
                     try clear hfz61_0
                     try clear hfz61_1
                     try clear hfz61_2
                     try clear hfz61_3
                     try clear hfz61_4
                     try clear hfz61_5
                     try clear hfz61_6
                     try clear hfz61_7
                     try clear hfz61_8
                     try clear hfz61_9
                     try clear hfz71_0
                     try clear hfz71_1
                     try clear hfz71_2
                     try clear hfz71_3
                     try clear hfz71_4
                     try clear hfz71_5
                     try clear hfz71_6
                     try clear hfz71_7
                     try clear hfz71_8
                     try clear hfz71_9
                     try clear hfz74_0
                     try clear hfz74_1
                     try clear hfz74_2
                     try clear hfz76_0
                     try clear hfz76_1
                     try clear hfz76_2
                     try clear hfz76_3
                     try clear hfz76_4
                     try clear hfz76_5
                     try clear hfz76_6
                     try clear hfz76_7
                     try clear hfz76_8
                     try clear hfz76_9
                     try clear hfz77_0
                     try clear hfz77_1
                     try clear hfz77_2
                     try clear hfz79_0
                     try clear hfz79_1
                     try clear hfz79_2
                     try clear hfz79_3
                     try clear hfz79_4
                     try clear hfz79_5
                     try clear hfz79_6
                     try clear hfz79_7
                     try clear hfz79_8
                     try clear hfz79_9
                     try clear hfz84_0
                     try clear hfz84_1
                     try clear hfz84_2
                     try clear hfz84_3
                     try clear hfz84_4
                     try clear hfz84_5
                     try clear hfz84_6
                     try clear hfz84_7
                     try clear hfz84_8
                     try clear hfz84_9
                     try clear hfz87_0
                     try clear hfz87_1
                     try clear hfz87_2
                     try clear hfz89_0
                     try clear hfz89_1
                     try clear hfz89_2
                     try clear hfz89_3
                     try clear hfz89_4
                     try clear hfz89_5
                     try clear hfz89_6
                     try clear hfz89_7
                     try clear hfz89_8
                     try clear hfz89_9
                     try clear hfz90_0
                     try clear hfz90_1
                     try clear hfz90_2
                     try clear hfz95_0
                     try clear hfz95_1
                     try clear hfz95_2
                     try clear hfz95_3
                     try clear hfz95_4
                     try clear hfz95_5
                     try clear hfz95_6
                     try clear hfz95_7
                     try clear hfz95_8
                     try clear hfz95_9
                     try clear hfz98_0
                     try clear hfz98_1
                     try clear hfz98_2
                     try clear hx282_0
                     try clear hx282_1
                     try clear hx282_2
                     try clear hx282_3
                     try clear hx282_4
                     try clear hx282_5
                     try clear hx282_6
                     try clear hx282_7
                     try clear hx282_8
                     try clear hx282_9
                     try clear hx285_0
                     try clear hx285_1
                     try clear hx285_2
                     try clear hx287_0
                     try clear hx287_1
                     try clear hx287_2
                     try clear hx287_3
                     try clear hx287_4
                     try clear hx287_5
                     try clear hx287_6
                     try clear hx287_7
                     try clear hx287_8
                     try clear hx287_9
                     try clear p2
                     try clear p28
                     try clear p282
                     try clear p285
                     try clear p287
                     try clear p6
                     try clear q2
                     try clear q28
                     try clear q282
                     try clear q285
                     try clear q287
                     obtain ⟨x123_5,rfl,HA,HK5,HO_63,HO_121,HO_282000,HO_282001,BK281,BK283,BK286,HB⟩:=hrel
                     cases gk with
                     | zero => exact absurd HA.out (by simp [almshouselaw17_HealKeeps.l3])
                     | succ k5 =>
                      have H := HA.out
                      clear HA
                      simp only [almshouselaw17_HealKeeps.l3] at H
                      by_cases c119 : x123_5 < (t277.length : Int)
                      ·rw [if_pos c119] at H
                       have c119b0 : decide (x123_5 < (t277.length : Int)) = true:=decide_eq_true c119
                       clear c119
                       by_cases c120 : 0 ≤ x123_5
                       ·rw [if_pos c120] at H
                        have c120b0 : decide (0 ≤ x123_5) = true := decide_eq_true c120
                        clear c120
                        by_cases c121 : x123_5 < (t277.length : Int)
                        ·rw [if_pos c121] at H
                         have c121b0 : decide (x123_5 < (t277.length : Int)) = true:=decide_eq_true c121
                         clear c121
                         by_cases c122 : (rd t277 x123_5) = ((rd_T40 t274 x65_3).f1)
                         ·rw [if_pos c122] at H
                          have c122b0 : ((rd t277 x123_5) == ((rd_T40 t274 x65_3).f1)) = true:=beq_iff_eq.mpr c122
                          have c122b1 : ((rd t277 x123_5) != ((rd_T40 t274 x65_3).f1)) = false:=bne_eq_false_iff_eq.mpr c122
                          clear c122
                          obtain rfl := Option.some.inj H
                          have p290 : 0 ≤ (x123_5 : Int):=of_decide_eq_true (by first|(with_reducible assumption)|assumption)
                          have q290 : x123_5 < (t277.length : Int):=of_decide_eq_true (by first|(with_reducible assumption)|assumption)
                          obtain ⟨ad290,e290,hx290_0⟩:=Kd.at_int (Kd.R_reads' HO_121.out).2.2 x123_5 p290 q290
                          cases e290
                          replace p290 := eq_true p290
                          replace q290 := eq_true q290
                          have hnb123 := NB286_281.out
                          have hnc123 := NB281_286.out
                          have hnb124 := NB286_283.out
                          have hnc124 := NB283_286.out
                          have hcz125_0 : wr.cell? ⟨gb286,0,none⟩ = some (.int .i64 ((rd_T40 t274 x65_3).f0)):=(blk_cell BK286.out 0).trans rfl
                          have hcz125_1 : wr.cell? ⟨gb286,1,none⟩ = some (.int .i64 ((rd_T40 t274 x65_3).f1)):=(blk_cell BK286.out 1).trans rfl
                          have hcz125_2 : wr.cell? ⟨gb286,2,none⟩ = some (.int .i64 ((rd_T40 t274 x65_3).f2)):=(blk_cell BK286.out 2).trans rfl
                          have hfz125_0 := blk_frozen BK286.out 0
                          have hfz125_1 := blk_frozen BK286.out 1
                          have hfz125_2 := blk_frozen BK286.out 2
                          go_wp2
                          go_ret
                          exact ⟨by first|rfl|(simp [errW_none,errW_some] <;> rfl)|(simp [*,errW_none,errW_some] <;> rfl),by repeat (first|(with_reducible first|exact HB.out|apply below_alloc|apply pw_below_drewN|apply below_drew1|refine below_set ?_ GE281.out|refine below_set ?_ GE283.out|refine below_set ?_ GE286.out)|exact HB.out)⟩
                         ·rw [if_neg c122] at H
                          have c122b0 : ((rd t277 x123_5) == ((rd_T40 t274 x65_3).f1)) = false:=beq_eq_false_iff_ne.mpr c122
                          have c122b1 : ((rd t277 x123_5) != ((rd_T40 t274 x65_3).f1)) = true:=bne_iff_ne.mpr c122
                          have H' := Aside0.mk H
                          clear H
                          have p290 : 0 ≤ (x123_5 : Int):=of_decide_eq_true (by first|(with_reducible assumption)|assumption)
                          have q290 : x123_5 < (t277.length : Int):=of_decide_eq_true (by first|(with_reducible assumption)|assumption)
                          obtain ⟨ad290,e290,hx290_0⟩:=Kd.at_int (Kd.R_reads' HO_121.out).2.2 x123_5 p290 q290
                          cases e290
                          replace p290 := eq_true p290
                          replace q290 := eq_true q290
                          have hnb126 := NB286_281.out
                          have hnc126 := NB281_286.out
                          have hnb127 := NB286_283.out
                          have hnc127 := NB283_286.out
                          have hcz128_0 : wr.cell? ⟨gb286,0,none⟩ = some (.int .i64 ((rd_T40 t274 x65_3).f0)):=(blk_cell BK286.out 0).trans rfl
                          have hcz128_1 : wr.cell? ⟨gb286,1,none⟩ = some (.int .i64 ((rd_T40 t274 x65_3).f1)):=(blk_cell BK286.out 1).trans rfl
                          have hcz128_2 : wr.cell? ⟨gb286,2,none⟩ = some (.int .i64 ((rd_T40 t274 x65_3).f2)):=(blk_cell BK286.out 2).trans rfl
                          have hfz128_0 := blk_frozen BK286.out 0
                          have hfz128_1 := blk_frozen BK286.out 1
                          have hfz128_2 := blk_frozen BK286.out 2
                          go_wp2
                          go_roundg k5
                          case measure => have:=HK1.out;have:=HJ20.out;have:=HK3.out;have:=HK4.out;have:=HK5.out;omega
                          case rel => exact ⟨(wrap64 (x123_5 + 1)),(by first|rfl|(simp;done)|(simp [*];done)),H',⟨by have:=HK1.out;have:=HJ20.out;have:=HK3.out;have:=HK4.out;have:=HK5.out;omega⟩,⟨by (with_reducible repeat (first|apply Kd.R_alloc|apply Kd.R_drewN|apply Kd.R_drew));exact HO_63.out⟩,⟨by (with_reducible repeat (first|apply Kd.R_alloc|apply Kd.R_drewN|apply Kd.R_drew));exact HO_121.out⟩,⟨by (with_reducible repeat (first|apply Kd.R_alloc|apply Kd.R_drewN|apply Kd.R_drew));exact HO_282000.out⟩,⟨by (with_reducible repeat (first|apply Kd.R_alloc|apply Kd.R_drewN|apply Kd.R_drew));exact HO_282001.out⟩,⟨by (with_reducible repeat (first|refine blk_drewN ?_ _|refine blk_drew ?_|refine blk_alloc ?_ _));exact BK281.out⟩,⟨by (with_reducible repeat (first|refine blk_drewN ?_ _|refine blk_drew ?_|refine blk_alloc ?_ _));exact BK283.out⟩,⟨by (with_reducible repeat (first|refine blk_drewN ?_ _|refine blk_drew ?_|refine blk_alloc ?_ _));exact BK286.out⟩,⟨by repeat (first|(with_reducible first|exact HB.out|apply below_alloc|apply pw_below_drewN|apply below_drew1|refine below_set ?_ GE281.out|refine below_set ?_ GE283.out|refine below_set ?_ GE286.out)|exact HB.out)⟩⟩
                        ·rw [if_neg c121] at H
                         exact absurd H (by simp)
                       ·rw [if_neg c120] at H
                        exact absurd H (by simp)
                      ·rw [if_neg c119] at H
                       have c119b0 : decide (x123_5 < (t277.length : Int)) = false:=decide_eq_false c119
                       clear c119
                       have H' := Aside0.mk H
                       clear H
                       go_wp2
                       go_roundg k5
                       case measure => have:=HK1.out;have:=HJ20.out;have:=HK3.out;have:=HK4.out;have:=HK5.out;omega
                       case rel => exact ⟨(x14_4),(wrap64 (x65_3 + 1)),(by first|rfl|(simp;done)|(simp [*];done)),(by first|rfl|(simp;done)|(simp [*];done)),H',⟨by have:=HK1.out;have:=HJ20.out;have:=HK3.out;have:=HK4.out;have:=HK5.out;omega⟩,⟨by (with_reducible repeat (first|apply Kd.R_alloc|apply Kd.R_drewN|apply Kd.R_drew));exact Kd.R_mono HO_63.out (fun _ hk => trivial)⟩,⟨by (with_reducible repeat (first|apply Kd.R_alloc|apply Kd.R_drewN|apply Kd.R_drew));exact Kd.R_mono HO_282000.out (fun _ hk => trivial)⟩,⟨by (with_reducible repeat (first|apply Kd.R_alloc|apply Kd.R_drewN|apply Kd.R_drew));exact HO_282001.out⟩,⟨by (with_reducible repeat (first|refine blk_drewN ?_ _|refine blk_drew ?_|refine blk_alloc ?_ _));exact BK281.out⟩,⟨by (with_reducible repeat (first|refine blk_drewN ?_ _|refine blk_drew ?_|refine blk_alloc ?_ _));exact BK283.out⟩,⟨by repeat (first|(with_reducible first|exact HB.out|apply below_alloc|apply pw_below_drewN|apply below_drew1|refine below_set ?_ GE281.out|refine below_set ?_ GE283.out|refine below_set ?_ GE286.out)|exact HB.out)⟩⟩
                ·rw [if_neg c46] at H
                 have c46b0 : (((rd_T40 t274 x65_3).f0) == ((rd_T36 l0 x35_1).f3.f2)) = false:=beq_eq_false_iff_ne.mpr c46
                 have c46b1 : (((rd_T40 t274 x65_3).f0) != ((rd_T36 l0 x35_1).f3.f2)) = true:=bne_iff_ne.mpr c46
                 have H' := Aside0.mk H
                 clear H
                 have p285 : 0 ≤ (x65_3 : Int):=of_decide_eq_true (by first|(with_reducible assumption)|assumption)
                 have q285 : x65_3 < (t274.length : Int):=of_decide_eq_true (by first|(with_reducible assumption)|assumption)
                 obtain ⟨ad285,e285,hx285_0,hx285_1,hx285_2⟩:=at_T40 (Kd.R_reads' HO_63.out).2.2 x65_3 p285 q285
                 cases e285
                 replace p285 := eq_true p285
                 replace q285 := eq_true q285
                 go_wp2_with (first|((with_reducible refine gate_dst (N:=16) rfl ?_);refine box_event ?hg (N:=16) ?hd (cs:=#[.int .i64 0,.int .i64 0,.int .i64 0]) (t:=40) ?hr ?_;(case hd => rfl);(case hg => rfl);(case hr => first|(go_simp;done)|(go_simp;rfl));intro gb286 hg w129 hbox hb;have n0_:=Aside0.mk (Kd.R_below (Kd.R_elderB (by (with_reducible repeat (first|apply Kd.R_alloc|apply Kd.R_drewN|apply Kd.R_drew));exact HO_63.out) gb286 (Nat.le_of_eq hg.symm)) hb);have n1_:=Aside0.mk (Kd.R_below (Kd.R_elderB (by (with_reducible repeat (first|apply Kd.R_alloc|apply Kd.R_drewN|apply Kd.R_drew));exact HO_282000.out) gb286 (Nat.le_of_eq hg.symm)) hb);have n2_:=Aside0.mk (Kd.R_below (by (with_reducible repeat (first|apply Kd.R_alloc|apply Kd.R_drewN|apply Kd.R_drew));exact HO_282001.out) hb);have n3_:=Aside0.mk (blk_below (g:=gb281) (o:=.cells #[.slice (some ad285) t274.length co15,.slice Ao17 t277.length co17,.int .i64 t280] 28 (0,0)) (by (with_reducible repeat (first|refine blk_drewN ?_ _|refine blk_drew ?_|refine blk_alloc ?_ _));exact BK281.out) hb);have n4_:=Aside0.mk (blk_below (g:=gb283) (o:=.cells #[.int .i64 ((rd_T36 l0 x35_1).f0),.int .i64 ((rd_T36 l0 x35_1).f1),.bool ((rd_T36 l0 x35_1).f2),.int .i64 ((rd_T36 l0 x35_1).f3.f0),.int .i64 ((rd_T36 l0 x35_1).f3.f1),.int .i64 ((rd_T36 l0 x35_1).f3.f2),.int .i64 ((rd_T36 l0 x35_1).f3.f3),.int .i64 ((rd_T36 l0 x35_1).f3.f4),.bool ((rd_T36 l0 x35_1).f3.f5),.string ((rd_T36 l0 x35_1).f4)] 36 (0,0)) (by (with_reducible repeat (first|refine blk_drewN ?_ _|refine blk_drew ?_|refine blk_alloc ?_ _));exact BK283.out) hb);have n5_:=Aside0.mk (below_step (by repeat (first|(with_reducible first|exact HB.out|apply below_alloc|apply pw_below_drewN|apply below_drew1|refine below_set ?_ GE281.out|refine below_set ?_ GE283.out)|exact HB.out)) hb);have n6_:=Aside0.mk (hbox);have n7_:=Aside0.mk ((by rw [hg];exact (below_size (by repeat (first|(with_reducible first|exact HB.out|apply below_alloc|apply pw_below_drewN|apply below_drew1|refine below_set ?_ GE281.out|refine below_set ?_ GE283.out)|exact HB.out))) : w.heap.size ≤ gb286));have n8_:=Aside0.mk ((by rw [hg];exact (below_size (by repeat (first|(with_reducible first|exact HB.out|apply below_alloc|apply pw_below_drewN|apply below_drew1|refine below_set ?_ GE281.out|refine below_set ?_ GE283.out)|exact HB.out))) : w.heap.size ≤ gb286));have n9_:=Aside0.mk ((by rw [hg];exact Nat.ne_of_lt (blk_lt (g:=gb281) (o:=.cells #[.slice (some ad285) t274.length co15,.slice Ao17 t277.length co17,.int .i64 t280] 28 (0,0)) (by (with_reducible repeat (first|refine blk_drewN ?_ _|refine blk_drew ?_|refine blk_alloc ?_ _));exact BK281.out)) : gb281 ≠ gb286));have n10_:=Aside0.mk ((by rw [hg];exact Nat.ne_of_gt (blk_lt (g:=gb281) (o:=.cells #[.slice (some ad285) t274.length co15,.slice Ao17 t277.length co17,.int .i64 t280] 28 (0,0)) (by (with_reducible repeat (first|refine blk_drewN ?_ _|refine blk_drew ?_|refine blk_alloc ?_ _));exact BK281.out)) : gb286 ≠ gb281));have n11_:=Aside0.mk ((by rw [hg];exact Nat.ne_of_lt (blk_lt (g:=gb283) (o:=.cells #[.int .i64 ((rd_T36 l0 x35_1).f0),.int .i64 ((rd_T36 l0 x35_1).f1),.bool ((rd_T36 l0 x35_1).f2),.int .i64 ((rd_T36 l0 x35_1).f3.f0),.int .i64 ((rd_T36 l0 x35_1).f3.f1),.int .i64 ((rd_T36 l0 x35_1).f3.f2),.int .i64 ((rd_T36 l0 x35_1).f3.f3),.int .i64 ((rd_T36 l0 x35_1).f3.f4),.bool ((rd_T36 l0 x35_1).f3.f5),.string ((rd_T36 l0 x35_1).f4)] 36 (0,0)) (by (with_reducible repeat (first|refine blk_drewN ?_ _|refine blk_drew ?_|refine blk_alloc ?_ _));exact BK283.out)) : gb283 ≠ gb286));have n12_:=Aside0.mk ((by rw [hg];exact Nat.ne_of_gt (blk_lt (g:=gb283) (o:=.cells #[.int .i64 ((rd_T36 l0 x35_1).f0),.int .i64 ((rd_T36 l0 x35_1).f1),.bool ((rd_T36 l0 x35_1).f2),.int .i64 ((rd_T36 l0 x35_1).f3.f0),.int .i64 ((rd_T36 l0 x35_1).f3.f1),.int .i64 ((rd_T36 l0 x35_1).f3.f2),.int .i64 ((rd_T36 l0 x35_1).f3.f3),.int .i64 ((rd_T36 l0 x35_1).f3.f4),.bool ((rd_T36 l0 x35_1).f3.f5),.string ((rd_T36 l0 x35_1).f4)] 36 (0,0)) (by (with_reducible repeat (first|refine blk_drewN ?_ _|refine blk_drew ?_|refine blk_alloc ?_ _));exact BK283.out)) : gb286 ≠ gb283));clear HO_63;clear HO_282000;clear HO_282001;clear BK281;clear BK283;clear HB;have HO_63:=n0_;have HO_282000:=n1_;have HO_282001:=n2_;have BK281:=n3_;have BK283:=n4_;have HB:=n5_;have BK286:=n6_;have GW286:=n7_;have GE286:=n8_;have NB281_286:=n9_;have NB286_281:=n10_;have NB283_286:=n11_;have NB286_283:=n12_;clear n0_ n1_ n2_ n3_ n4_ n5_ n6_ n7_ n8_ n9_ n10_ n11_ n12_;clear hb hbox hg;have hnb130:=NB286_281.out;have hnc130:=NB281_286.out;have hnb131:=NB286_283.out;have hnc131:=NB283_286.out;have hcz132_0 : w129.cell? ⟨gb286,0,none⟩ = some (.int .i64 0):=(blk_cell BK286.out 0).trans rfl;have hcz132_1 : w129.cell? ⟨gb286,1,none⟩ = some (.int .i64 0):=(blk_cell BK286.out 1).trans rfl;have hcz132_2 : w129.cell? ⟨gb286,2,none⟩ = some (.int .i64 0):=(blk_cell BK286.out 2).trans rfl;have hfz132_0:=blk_frozen BK286.out 0;have hfz132_1:=blk_frozen BK286.out 1;have hfz132_2:=blk_frozen BK286.out 2;have hnb133:=NB283_281.out;have hnc133:=NB281_283.out;have hcz134_0 : w129.cell? ⟨gb283,0,none⟩ = some (.int .i64 ((rd_T36 l0 x35_1).f0)):=(blk_cell BK283.out 0).trans rfl;have hcz134_1 : w129.cell? ⟨gb283,1,none⟩ = some (.int .i64 ((rd_T36 l0 x35_1).f1)):=(blk_cell BK283.out 1).trans rfl;have hcz134_2 : w129.cell? ⟨gb283,2,none⟩ = some (.bool ((rd_T36 l0 x35_1).f2)):=(blk_cell BK283.out 2).trans rfl;have hcz134_3 : w129.cell? ⟨gb283,3,none⟩ = some (.int .i64 ((rd_T36 l0 x35_1).f3.f0)):=(blk_cell BK283.out 3).trans rfl;have hcz134_4 : w129.cell? ⟨gb283,4,none⟩ = some (.int .i64 ((rd_T36 l0 x35_1).f3.f1)):=(blk_cell BK283.out 4).trans rfl;have hcz134_5 : w129.cell? ⟨gb283,5,none⟩ = some (.int .i64 ((rd_T36 l0 x35_1).f3.f2)):=(blk_cell BK283.out 5).trans rfl;have hcz134_6 : w129.cell? ⟨gb283,6,none⟩ = some (.int .i64 ((rd_T36 l0 x35_1).f3.f3)):=(blk_cell BK283.out 6).trans rfl;have hcz134_7 : w129.cell? ⟨gb283,7,none⟩ = some (.int .i64 ((rd_T36 l0 x35_1).f3.f4)):=(blk_cell BK283.out 7).trans rfl;have hcz134_8 : w129.cell? ⟨gb283,8,none⟩ = some (.bool ((rd_T36 l0 x35_1).f3.f5)):=(blk_cell BK283.out 8).trans rfl;have hcz134_9 : w129.cell? ⟨gb283,9,none⟩ = some (.string ((rd_T36 l0 x35_1).f4)):=(blk_cell BK283.out 9).trans rfl;have hfz134_0:=blk_frozen BK283.out 0;have hfz134_1:=blk_frozen BK283.out 1;have hfz134_2:=blk_frozen BK283.out 2;have hfz134_3:=blk_frozen BK283.out 3;have hfz134_4:=blk_frozen BK283.out 4;have hfz134_5:=blk_frozen BK283.out 5;have hfz134_6:=blk_frozen BK283.out 6;have hfz134_7:=blk_frozen BK283.out 7;have hfz134_8:=blk_frozen BK283.out 8;have hfz134_9:=blk_frozen BK283.out 9))
                 go_roundg k3
                 case measure => have := HK1.out; have := HJ20.out; have := HK3.out; omega
                 case rel => exact ⟨(x14_3),(wrap64 (x65_3 + 1)),(by first|rfl|(simp;done)|(simp [*];done)),(by first|rfl|(simp;done)|(simp [*];done)),H',⟨by have:=HK1.out;have:=HJ20.out;have:=HK3.out;omega⟩,⟨by (with_reducible repeat (first|apply Kd.R_alloc|apply Kd.R_drewN|apply Kd.R_drew));exact Kd.R_mono (Kd.R_far (p:=⟨gb286,2,none⟩) (Kd.R_far (p:=⟨gb286,1,none⟩) (Kd.R_far (p:=⟨gb286,0,none⟩) (Kd.R_mono HO_63.out (fun k_ hk => (⟨hk,hk.2⟩:_ ∧ k_ ≠ gb286))) (fun _ hk => hk.2) (.int .i64 ((rd_T40 t274 x65_3).f0))) (fun _ hk => hk.2) (.int .i64 ((rd_T40 t274 x65_3).f1))) (fun _ hk => hk.2) (.int .i64 ((rd_T40 t274 x65_3).f2))) (fun _ hk => trivial)⟩,⟨by (with_reducible repeat (first|apply Kd.R_alloc|apply Kd.R_drewN|apply Kd.R_drew));exact Kd.R_mono (Kd.R_far (p:=⟨gb286,2,none⟩) (Kd.R_far (p:=⟨gb286,1,none⟩) (Kd.R_far (p:=⟨gb286,0,none⟩) (Kd.R_mono HO_282000.out (fun k_ hk => (⟨hk,hk.2⟩:_ ∧ k_ ≠ gb286))) (fun _ hk => hk.2) (.int .i64 ((rd_T40 t274 x65_3).f0))) (fun _ hk => hk.2) (.int .i64 ((rd_T40 t274 x65_3).f1))) (fun _ hk => hk.2) (.int .i64 ((rd_T40 t274 x65_3).f2))) (fun _ hk => trivial)⟩,⟨by (with_reducible repeat (first|apply Kd.R_alloc|apply Kd.R_drewN|apply Kd.R_drew));exact Kd.R_mono (Kd.R_far (p:=⟨gb286,2,none⟩) (Kd.R_far (p:=⟨gb286,1,none⟩) (Kd.R_far (p:=⟨gb286,0,none⟩) (Kd.R_types HO_282001.out BK286.out (by decide)) (fun _ hk => hk.2) (.int .i64 ((rd_T40 t274 x65_3).f0))) (fun _ hk => hk.2) (.int .i64 ((rd_T40 t274 x65_3).f1))) (fun _ hk => hk.2) (.int .i64 ((rd_T40 t274 x65_3).f2))) (fun _ hk => trivial)⟩,⟨by (with_reducible repeat (first|refine blk_drewN ?_ _|refine blk_drew ?_|refine blk_alloc ?_ _));refine blk_far ?_ NB281_286.out _;(with_reducible repeat (first|refine blk_drewN ?_ _|refine blk_drew ?_|refine blk_alloc ?_ _));refine blk_far ?_ NB281_286.out _;(with_reducible repeat (first|refine blk_drewN ?_ _|refine blk_drew ?_|refine blk_alloc ?_ _));refine blk_far ?_ NB281_286.out _;(with_reducible repeat (first|refine blk_drewN ?_ _|refine blk_drew ?_|refine blk_alloc ?_ _));exact BK281.out⟩,⟨by (with_reducible repeat (first|refine blk_drewN ?_ _|refine blk_drew ?_|refine blk_alloc ?_ _));refine blk_far ?_ NB283_286.out _;(with_reducible repeat (first|refine blk_drewN ?_ _|refine blk_drew ?_|refine blk_alloc ?_ _));refine blk_far ?_ NB283_286.out _;(with_reducible repeat (first|refine blk_drewN ?_ _|refine blk_drew ?_|refine blk_alloc ?_ _));refine blk_far ?_ NB283_286.out _;(with_reducible repeat (first|refine blk_drewN ?_ _|refine blk_drew ?_|refine blk_alloc ?_ _));exact BK283.out⟩,⟨by repeat (first|(with_reducible first|exact HB.out|apply below_alloc|apply pw_below_drewN|apply below_drew1|refine below_set ?_ GE281.out|refine below_set ?_ GE283.out|refine below_set ?_ GE286.out)|exact HB.out)⟩⟩
               ·rw [if_neg c45] at H
                exact absurd H (by simp)
              ·rw [if_neg c44] at H
               exact absurd H (by simp)
             ·rw [if_neg c43] at H
              have c43b0 : decide (x65_3 < (t274.length : Int)) = false := decide_eq_false c43
              clear c43
              by_cases c135 : x14_3 = true
              ·subst c135
               have H1 : (if ((rd_T36 l0 x35_1).f3.f3) ≥ t280 then (some false) else (almshouselaw17_HealKeeps.l0 k3 l0 a1 a2 a3 a4 l0 (l0.length : Int) (wrap64 (x35_1 + 1)) t274 t277 t280)) = some r:=by rw [if_pos rfl] at H;exact H
               clear H
               have H := H1
               clear H1
               by_cases c136 : ((rd_T36 l0 x35_1).f3.f3) ≥ t280
               ·rw [if_pos c136] at H
                have c136b0 : decide (t280 ≤ ((rd_T36 l0 x35_1).f3.f3)) = true:=decide_eq_true c136
                clear c136
                obtain rfl := Option.some.inj H
                have hnb137 := NB283_281.out
                have hnc137 := NB281_283.out
                have hcz138_0 : wr.cell? ⟨gb283,0,none⟩ = some (.int .i64 ((rd_T36 l0 x35_1).f0)):=(blk_cell BK283.out 0).trans rfl
                have hcz138_1 : wr.cell? ⟨gb283,1,none⟩ = some (.int .i64 ((rd_T36 l0 x35_1).f1)):=(blk_cell BK283.out 1).trans rfl
                have hcz138_2 : wr.cell? ⟨gb283,2,none⟩ = some (.bool ((rd_T36 l0 x35_1).f2)):=(blk_cell BK283.out 2).trans rfl
                have hcz138_3 : wr.cell? ⟨gb283,3,none⟩ = some (.int .i64 ((rd_T36 l0 x35_1).f3.f0)):=(blk_cell BK283.out 3).trans rfl
                have hcz138_4 : wr.cell? ⟨gb283,4,none⟩ = some (.int .i64 ((rd_T36 l0 x35_1).f3.f1)):=(blk_cell BK283.out 4).trans rfl
                have hcz138_5 : wr.cell? ⟨gb283,5,none⟩ = some (.int .i64 ((rd_T36 l0 x35_1).f3.f2)):=(blk_cell BK283.out 5).trans rfl
                have hcz138_6 : wr.cell? ⟨gb283,6,none⟩ = some (.int .i64 ((rd_T36 l0 x35_1).f3.f3)):=(blk_cell BK283.out 6).trans rfl
                have hcz138_7 : wr.cell? ⟨gb283,7,none⟩ = some (.int .i64 ((rd_T36 l0 x35_1).f3.f4)):=(blk_cell BK283.out 7).trans rfl
                have hcz138_8 : wr.cell? ⟨gb283,8,none⟩ = some (.bool ((rd_T36 l0 x35_1).f3.f5)):=(blk_cell BK283.out 8).trans rfl
                have hcz138_9 : wr.cell? ⟨gb283,9,none⟩ = some (.string ((rd_T36 l0 x35_1).f4)):=(blk_cell BK283.out 9).trans rfl
                have hfz138_0 := blk_frozen BK283.out 0
                have hfz138_1 := blk_frozen BK283.out 1
                have hfz138_2 := blk_frozen BK283.out 2
                have hfz138_3 := blk_frozen BK283.out 3
                have hfz138_4 := blk_frozen BK283.out 4
                have hfz138_5 := blk_frozen BK283.out 5
                have hfz138_6 := blk_frozen BK283.out 6
                have hfz138_7 := blk_frozen BK283.out 7
                have hfz138_8 := blk_frozen BK283.out 8
                have hfz138_9 := blk_frozen BK283.out 9
                have hcz139_0 : wr.cell? ⟨gb281,0,none⟩ = some (.slice Ao15 t274.length co15):=(blk_cell BK281.out 0).trans rfl
                have hcz139_1 : wr.cell? ⟨gb281,1,none⟩ = some (.slice Ao17 t277.length co17):=(blk_cell BK281.out 1).trans rfl
                have hcz139_2 : wr.cell? ⟨gb281,2,none⟩ = some (.int .i64 t280):=(blk_cell BK281.out 2).trans rfl
                have hfz139_0 := blk_frozen BK281.out 0
                have hfz139_1 := blk_frozen BK281.out 1
                have hfz139_2 := blk_frozen BK281.out 2
                go_wp2
                go_ret
                exact ⟨by first|rfl|(simp [errW_none,errW_some] <;> rfl)|(simp [*,errW_none,errW_some] <;> rfl),by repeat (first|(with_reducible first|exact HB.out|apply below_alloc|apply pw_below_drewN|apply below_drew1|refine below_set ?_ GE281.out|refine below_set ?_ GE283.out)|exact HB.out)⟩
               ·rw [if_neg c136] at H
                have c136b0 : decide (t280 ≤ ((rd_T36 l0 x35_1).f3.f3)) = false:=decide_eq_false c136
                clear c136
                have H' := Aside0.mk H
                clear H
                have hnb140 := NB283_281.out
                have hnc140 := NB281_283.out
                have hcz141_0 : wr.cell? ⟨gb283,0,none⟩ = some (.int .i64 ((rd_T36 l0 x35_1).f0)):=(blk_cell BK283.out 0).trans rfl
                have hcz141_1 : wr.cell? ⟨gb283,1,none⟩ = some (.int .i64 ((rd_T36 l0 x35_1).f1)):=(blk_cell BK283.out 1).trans rfl
                have hcz141_2 : wr.cell? ⟨gb283,2,none⟩ = some (.bool ((rd_T36 l0 x35_1).f2)):=(blk_cell BK283.out 2).trans rfl
                have hcz141_3 : wr.cell? ⟨gb283,3,none⟩ = some (.int .i64 ((rd_T36 l0 x35_1).f3.f0)):=(blk_cell BK283.out 3).trans rfl
                have hcz141_4 : wr.cell? ⟨gb283,4,none⟩ = some (.int .i64 ((rd_T36 l0 x35_1).f3.f1)):=(blk_cell BK283.out 4).trans rfl
                have hcz141_5 : wr.cell? ⟨gb283,5,none⟩ = some (.int .i64 ((rd_T36 l0 x35_1).f3.f2)):=(blk_cell BK283.out 5).trans rfl
                have hcz141_6 : wr.cell? ⟨gb283,6,none⟩ = some (.int .i64 ((rd_T36 l0 x35_1).f3.f3)):=(blk_cell BK283.out 6).trans rfl
                have hcz141_7 : wr.cell? ⟨gb283,7,none⟩ = some (.int .i64 ((rd_T36 l0 x35_1).f3.f4)):=(blk_cell BK283.out 7).trans rfl
                have hcz141_8 : wr.cell? ⟨gb283,8,none⟩ = some (.bool ((rd_T36 l0 x35_1).f3.f5)):=(blk_cell BK283.out 8).trans rfl
                have hcz141_9 : wr.cell? ⟨gb283,9,none⟩ = some (.string ((rd_T36 l0 x35_1).f4)):=(blk_cell BK283.out 9).trans rfl
                have hfz141_0 := blk_frozen BK283.out 0
                have hfz141_1 := blk_frozen BK283.out 1
                have hfz141_2 := blk_frozen BK283.out 2
                have hfz141_3 := blk_frozen BK283.out 3
                have hfz141_4 := blk_frozen BK283.out 4
                have hfz141_5 := blk_frozen BK283.out 5
                have hfz141_6 := blk_frozen BK283.out 6
                have hfz141_7 := blk_frozen BK283.out 7
                have hfz141_8 := blk_frozen BK283.out 8
                have hfz141_9 := blk_frozen BK283.out 9
                have hcz142_0 : wr.cell? ⟨gb281,0,none⟩ = some (.slice Ao15 t274.length co15):=(blk_cell BK281.out 0).trans rfl
                have hcz142_1 : wr.cell? ⟨gb281,1,none⟩ = some (.slice Ao17 t277.length co17):=(blk_cell BK281.out 1).trans rfl
                have hcz142_2 : wr.cell? ⟨gb281,2,none⟩ = some (.int .i64 t280):=(blk_cell BK281.out 2).trans rfl
                have hfz142_0 := blk_frozen BK281.out 0
                have hfz142_1 := blk_frozen BK281.out 1
                have hfz142_2 := blk_frozen BK281.out 2
                go_wp2
                go_roundg k3
                case measure => have := HK1.out; have := HJ20.out; have := HK3.out; omega
                case rel => exact ⟨(wrap64 (x35_1 + 1)),(by first|rfl|(simp;done)|(simp [*];done)),H',⟨by have:=HK1.out;have:=HJ20.out;have:=HK3.out;omega⟩,⟨by (with_reducible repeat (first|apply Kd.R_alloc|apply Kd.R_drewN|apply Kd.R_drew));exact HO_282000.out⟩,⟨by (with_reducible repeat (first|apply Kd.R_alloc|apply Kd.R_drewN|apply Kd.R_drew));exact HO_282001.out⟩,⟨by (with_reducible repeat (first|refine blk_drewN ?_ _|refine blk_drew ?_|refine blk_alloc ?_ _));exact BK281.out⟩,⟨by repeat (first|(with_reducible first|exact HB.out|apply below_alloc|apply pw_below_drewN|apply below_drew1|refine below_set ?_ GE281.out|refine below_set ?_ GE283.out)|exact HB.out)⟩⟩
              ·replace c135 := Bool.eq_false_iff.mpr c135
               subst c135
               have H1 : (some false) = some r:=by rw [if_neg (show ¬ (false = true) by decide)] at H;exact H
               clear H
               have H := H1
               clear H1
               obtain rfl := Option.some.inj H
               go_wp2
               go_ret
               exact ⟨by first|rfl|(simp [errW_none,errW_some] <;> rfl)|(simp [*,errW_none,errW_some] <;> rfl),by repeat (first|(with_reducible first|exact HB.out|apply below_alloc|apply pw_below_drewN|apply below_drew1|refine below_set ?_ GE281.out|refine below_set ?_ GE283.out)|exact HB.out)⟩
       ·rw [if_neg c20] at H
        exact absurd H (by simp)
      ·rw [if_neg c19] at H
       exact absurd H (by simp)
     ·rw [if_neg c18] at H
      have c18b0 : decide (x35_1 < (l0.length : Int)) = false := decide_eq_false c18
      clear c18
      obtain rfl := Option.some.inj H
      go_wp2
      go_ret
      exact ⟨by first|rfl|(simp [errW_none,errW_some] <;> rfl)|(simp [*,errW_none,errW_some] <;> rfl),by repeat (first|(with_reducible first|exact HB.out|apply below_alloc|apply pw_below_drewN|apply below_drew1|refine below_set ?_ GE281.out)|exact HB.out)⟩
  ·replace c9 := Bool.eq_false_iff.mpr c9
   subst c9
   have H1 : (some true) = some r := by rw [if_neg (show ¬ (false = true) by decide)] at H; exact H
   clear H
   have H := H1
   clear H1
   obtain rfl := Option.some.inj H
   go_enter Try.func4, Try.ntmps4
   go_wp2_with (first|((with_reducible refine gate_callee (f:=6) rfl ?_);refine goesL_ (some 21) rfl rfl Try.func6 (by kernel_rfl) rfl #[] rfl (by (try simp only [List.map_toArray,List.map_cons,List.map_nil]);first|done|rfl|(simp only [List.length_drop,List.length_take];rfl)) ?_;(with_reducible refine (almshouselaw17_fixed.calls  true _ A6.out).mono ?_);rintro e w143 ⟨rfl,hb⟩;refine ⟨_,rfl,?_⟩;have n0_:=Aside0.mk (below_step (by repeat (first|(with_reducible first|exact HB.out|apply below_alloc|apply pw_below_drewN|apply below_drew1)|exact HB.out)) hb);clear HB;have HB:=n0_;clear n0_;(try clear hb);(try clear hb2);(try clear hk);(try clear hi))|((with_reducible refine gate_callee (f:=7) rfl ?_);refine goesL_ (some 25) rfl rfl Try.func7 (by kernel_rfl) rfl #[.slice A0 l0.length c0,.int .i64 a1] rfl (by (try simp only [List.map_toArray,List.map_cons,List.map_nil]);first|done|rfl|(simp only [List.length_drop,List.length_take];rfl)) ?_;(with_reducible refine (almshouselaw17_may.calls k _ _ l0 a1 false _ ?side1 ?side2 A8.out).mono ?_);(case side1 => repeat (first|exact (Kd.C_below HR0.out HB.out)|(with_reducible refine Kd.C_alloc ?_ _)|(with_reducible refine Kd.C_drewN ?_ _)|(with_reducible refine Kd.C_drew ?_)));(case side2 => exact HC0.out);rintro e w144 ⟨rfl,hb⟩;refine ⟨_,rfl,?_⟩;have n0_:=Aside0.mk (below_step (by repeat (first|(with_reducible first|exact HB.out|apply below_alloc|apply pw_below_drewN|apply below_drew1)|exact HB.out)) hb);clear HB;have HB:=n0_;clear n0_;(try clear hb);(try clear hb2);(try clear hk);(try clear hi)))
   go_ret
   exact ⟨by first|rfl|(simp [errW_none,errW_some] <;> rfl)|(simp [*,errW_none,errW_some] <;> rfl),by repeat (first|(with_reducible first|exact HB.out|apply below_alloc|apply pw_below_drewN|apply below_drew1)|exact HB.out)⟩
 ·replace c7 := Bool.eq_false_iff.mpr c7
  subst c7
  have H1 : (some false) = some r := by rw [if_neg (show ¬ (false = true) by decide)] at H; exact H
  clear H
  have H := H1
  clear H1
  obtain rfl := Option.some.inj H
  go_enter Try.func4, Try.ntmps4
  go_wp2_with (first|((with_reducible refine gate_callee (f:=6) rfl ?_);refine goesL_ (some 21) rfl rfl Try.func6 (by kernel_rfl) rfl #[] rfl (by (try simp only [List.map_toArray,List.map_cons,List.map_nil]);first|done|rfl|(simp only [List.length_drop,List.length_take];rfl)) ?_;(with_reducible refine (almshouselaw17_fixed.calls  false _ A6.out).mono ?_);rintro e w145 ⟨rfl,hb⟩;refine ⟨_,rfl,?_⟩;have n0_:=Aside0.mk (below_step (by repeat (first|(with_reducible first|exact HB.out|apply below_alloc|apply pw_below_drewN|apply below_drew1)|exact HB.out)) hb);clear HB;have HB:=n0_;clear n0_;(try clear hb);(try clear hb2);(try clear hk);(try clear hi)))
  go_ret
  exact ⟨by first|rfl|(simp [errW_none,errW_some] <;> rfl)|(simp [*,errW_none,errW_some] <;> rfl),by repeat (first|(with_reducible first|exact HB.out|apply below_alloc|apply pw_below_drewN|apply below_drew1)|exact HB.out)⟩
end Go.Proofs.Ytdmbibjgiehboaa.P
