-- Cut by a program of this session (wip/pr/pack.py) to what one claim needs.
import Derived.Test.YtdmbibjgiehboaaAXHb
namespace Go.Proofs.Ytdmbibjgiehboaa.X
open Go.RowKit Go.Shelf Go.Lib Go.Sort Go.Proofs.YtdmbibjgiehboaaW.PrintWords Go.Proofs.YtdmbibjgiehboaaW.PrintLast Go.Proofs.YtdmbibjgiehboaaW.PrintMore Go.Proofs.Ytdmbibjgiehboaa.P
set_option linter.unusedVariables false
set_option linter.unusedSimpArgs false
theorem goneL_len (s : Int → Bool) (counts : List Fd) : ∀ (d b : Nat) (out : List Int), (goneL s counts d b out).length ≤ out.length + d
 | 0, b, out => by simp [goneL]
 | d + 1, b, out => by
  rw [goneL]
  split
  ·have := goneL_len s counts d (b + 1) (out ++ [(b : Int)]); simp at this; omega
  ·have := goneL_len s counts d (b + 1) out; omega
def hasKey (m : List (Int × Value)) (k : Int) : Bool := (Mp.get k m).isSome
theorem zeroB (w : World) : (zeroValue 4).run Try.prog w = .ok (.bool false) w := by kernel_rfl
set_option maxHeartbeats 3200000 in
set_option maxRecDepth 100000 in
theorem gone_calls (bl : Int) (mb : Nat) (m : List (Int × Value)) (vm : Value) (A : Option Addr) (c : Nat) (counts : List Fd) (w : World) (hbl : bl ≤ 64) (hm : Mp.IMap w mb m) (hmt : ∀ k, (Mp.get k m).getD (.bool false) = .bool (hasKey m k))
  (hr : Kd.C k36 w A counts.length counts) (hvm : vm.oneCell' = true) :
  Calls Try.prog 18 #[.agg #[.int .i64 bl, .map (some mb), .slice A counts.length c, vm]] w
   fun e w' => ∃ v0, e = .returned v0 ∧ Kd.R (Kd.int .i64) 3 w' w.heap.size (fun _ => True) v0 (goneL (hasKey m) counts (max bl 0).toNat 0 []) ∧ Below w.heap.size w w' := by
 have hu := Try.underlying47
 have HR := Lib.hid hr
 have HM := Lib.hid hm
 have HMT := Lib.hid hmt
 clear hr hm hmt
 have hmx : max bl 0 ≤ 64 := by omega
 obtain ⟨N, hN⟩ : ∃ N : Nat, max bl 0 = N := ⟨(max bl 0).toNat, by omega⟩
 have hN64 : N ≤ 64 := by omega
 have EG := Lib.hid (show ∀ args w, (callFunc 29 args).run Try.prog w = .ok (.enter 29 args) w from enters_of Try.func29 (by kernel_rfl) rfl)
 go_enter Try.func18, Try.ntmps18
 go_wp2
 go_loopw [9] (fun s9 wr => ∃ (k : Nat) (v : Value) (out : List Int), s9 = .int .i64 (k : Int) ∧ k ≤ N ∧ Aside0 (out.length ≤ k ∧ goneL (hasKey m) counts (N - k) k out = goneL (hasKey m) counts N 0 []) ∧ Aside0 (Below w.heap.size w wr)
   ∧ Aside0 (wr.heap[w.heap.size]? = some (.cells #[.int .i64 bl, .map (some mb), .slice A counts.length c, vm] 47 (0, 0)))
   ∧ Aside0 (wr.heap[w.heap.size + 1]? = some (.cells #[v] 26 (0, 0))) ∧ Aside0 (Kd.R (Kd.int .i64) 3 wr w.heap.size (fun _ => True) v out))
  (fun s9 _ => N - (intOf s9).toNat)
 case atStart =>
  refine ⟨0, .slice none 0 0, [], rfl, by omega, ⟨⟨by simp, rfl⟩⟩, ⟨((Below.refl w.heap.size w).alloc (Nat.le_refl _) _).alloc (by simp) _⟩, ⟨?_⟩, ⟨?_⟩, ⟨Kd.R_nil _ _ _ _ _⟩⟩
  ·exact blk_alloc (blk_new w _) _
  ·have := blk_new (w.alloc (.cells #[.int .i64 bl, .map (some mb), .slice A counts.length c, vm] 47)) (.cells #[.slice none 0 0] 26)
   simpa using this
 case round =>
  obtain ⟨k, v, out, rfl, hk, HL, HB, HW, HO, HV⟩ := hrel
  obtain ⟨wo, rfl⟩ : ∃ wo : World, wo = wr := ⟨_, rfl⟩
  have hsz : w.heap.size + 1 < wo.heap.size := blk_lt HO.out
  have hsz0 : w.heap.size < wo.heap.size := by omega
  have hc0 : wo.cell? ⟨w.heap.size, 0, none⟩ = some (.int .i64 bl) := (blk_cell HW.out 0).trans rfl
  have hc1 : wo.cell? ⟨w.heap.size, 1, none⟩ = some (.map (some mb)) := (blk_cell HW.out 1).trans rfl
  have hc2 : wo.cell? ⟨w.heap.size, 2, none⟩ = some (.slice A counts.length c) := (blk_cell HW.out 2).trans rfl
  have hc3 : wo.cell? ⟨w.heap.size, 3, none⟩ = some vm := (blk_cell HW.out 3).trans rfl
  obtain ⟨A1, c1, rfl, hle1, hC1⟩ := Kd.R_reads HV.out
  have HC1 := Lib.hid hC1
  clear hC1
  have hco : wo.cell? ⟨w.heap.size + 1, 0, none⟩ = some (.slice A1 out.length c1) := (blk_cell HO.out 0).trans rfl
  by_cases hlt : k < N
  ·have hltz : (k : Int) < (N : Int) := by omega
   have HMo := Lib.hid (HM.out.below HB.out)
   have HRo := Lib.hid (Kd.C_below HR.out HB.out)
   have hstep := HL.out.2
   rw [show N - k = (N - (k + 1)) + 1 by omega, goneL] at hstep
   cases hs : hasKey m (k : Int) with
   | true =>
    have HLK := Lib.hid (show (if false = true then Value.tuple #[(Mp.get (k : Int) m).getD (.bool false), .bool (Mp.get (k : Int) m).isSome] else (Mp.get (k : Int) m).getD (.bool false)) = .bool true by rw [if_neg (by decide), HMT.out, hs])
    cases hq : counts.any (keepsB (k : Int) counts out) with
    | true =>
     rw [hs, hq] at hstep
     simp only [Bool.not_true, Bool.and_false, Bool.false_eq_true, if_false] at hstep
     have HL2 := Lib.hid hstep
     have HQ := Lib.hid hq
     clear hstep hq hs
     go_wp2_with (first
      | (at_lookup; refine Mp.wp_lookup_as _ rfl _ _ 45 false rfl 3 4 Try.underlying45 Try.underlying3 zeroB mb m rfl (HMo.out.alloc _) (k : Int) rfl (.bool true) HLK.out ?_)
      | (go_at_call 31; refine (containsF_calls A c counts 29 _ (keepsB (k : Int) counts out) _ (Kd.C_alloc HRo.out _) EG.out (gone1_pred wo.heap.size w.heap.size (w.heap.size + 1) (k : Int) bl (some mb) vm A c counts A1 c1 out _ (Kd.C_alloc HRo.out _) (Kd.C_alloc HC1.out _) hle1 hvm (by go_simp) (by go_simp) (by go_simp) (by go_simp) (by go_simp) (by go_simp))).mono ?_; rw [HQ.out]; rintro e w' ⟨rfl, hb⟩; have HB2 := Lib.hid hb; clear hb))
     have HBn := Lib.hid (below_then (below_alloc HB.out _) (by simp; have := HB.out.size; omega) HB2.out)
     have HHW := Lib.hid ((HB2.out.block _ (by simp; omega)).trans ((Below.heap_alloc wo (.cells #[.int .i64 (k : Int)] 3) _ (by omega)).trans HW.out))
     have HHO := Lib.hid ((HB2.out.block _ (by simp; omega)).trans ((Below.heap_alloc wo (.cells #[.int .i64 (k : Int)] 3) _ (by omega)).trans HO.out))
     have HHV := Lib.hid (Kd.R_below (Kd.R_alloc HV.out (.cells #[.int .i64 (k : Int)] 3)) HB2.out)
     go_roundw
     case rel => exact ⟨k + 1, _, out, by go_num, by omega, ⟨⟨by have := HL.out.1; omega, HL2.out⟩⟩, ⟨HBn.out⟩, ⟨HHW.out⟩, ⟨HHO.out⟩, ⟨HHV.out⟩⟩
     case measure => simp [intOf]; omega
    | false =>
     rw [hs, hq] at hstep
     simp only [Bool.not_false, Bool.and_true, if_true] at hstep
     have HL2 := Lib.hid hstep
     have HQ := Lib.hid hq
     clear hstep hq hs
     go_wp2_with (first
      | (at_lookup; refine Mp.wp_lookup_as _ rfl _ _ 45 false rfl 3 4 Try.underlying45 Try.underlying3 zeroB mb m rfl (HMo.out.alloc _) (k : Int) rfl (.bool true) HLK.out ?_)
      | (go_at_call 31; refine (containsF_calls A c counts 29 _ (keepsB (k : Int) counts out) _ (Kd.C_alloc HRo.out _) EG.out (gone1_pred wo.heap.size w.heap.size (w.heap.size + 1) (k : Int) bl (some mb) vm A c counts A1 c1 out _ (Kd.C_alloc HRo.out _) (Kd.C_alloc HC1.out _) hle1 hvm (by go_simp) (by go_simp) (by go_simp) (by go_simp) (by go_simp) (by go_simp))).mono ?_; rw [HQ.out]; rintro e w' ⟨rfl, hb⟩; have hd1 : w'.cell? ⟨w.heap.size + 1, 0, none⟩ = some (.slice A1 out.length c1) := pw_cell_below hb (by go_simp); have hd2 : w'.cell? ⟨wo.heap.size, 0, none⟩ = some (.int .i64 (k : Int)) := pw_cell_below hb (by go_simp); have HBn := Lib.hid (below_then (below_alloc HB.out _) (by simp; have := HB.out.size; omega) hb); have HHW := Lib.hid ((hb.block _ (by simp; omega)).trans ((Below.heap_alloc wo (.cells #[.int .i64 (k : Int)] 3) _ (by omega)).trans HW.out)); have HHO := Lib.hid ((hb.block _ (by simp; omega)).trans ((Below.heap_alloc wo (.cells #[.int .i64 (k : Int)] 3) _ (by omega)).trans HO.out)); have HHV := Lib.hid (Kd.R_below (Kd.R_alloc HV.out (.cells #[.int .i64 (k : Int)] 3)) hb); clear hb)
      | (at_builtin; refine Kd.R_append (Kd.int .i64) (w0 := w) w.heap.size rfl (.tmp 24) (.tmp 26) 26 3 (.int .i64 0) 8 rfl Try.underlying26 info3 rfl (by decide) (by omega) (.slice A1 out.length c1) out (k : Int) [.int .i64 (k : Int)] (fun _ => True) (fun _ => False) rfl rfl rfl (fun _ hk => hk.elim) (fun _ _ => trivial) HHV.out HBn.out HBn.out.size (by have := HL.out.1; omega) ?_; intro v1 w1 ho1 hb1 hg1 hat1; obtain ⟨A2, c2, rfl, hle2, hC2⟩ := Kd.R_reads ho1; clear hle2 hC2; rw [show (out ++ [(k : Int)]).length = out.length + 1 by simp] at ho1; have HG := Lib.hid hg1; have HV1 := Lib.hid ho1; have HB1 := Lib.hid hb1; have HHO1 := Lib.hid (blk_grown HHO.out hg1 (Kd.R_ne HHV.out HHO.out (by decide))); have HHW1 := Lib.hid (blk_grown HHW.out hg1 (Kd.R_ne HHV.out HHW.out (by decide))); have he1 : w1.cell? ⟨w.heap.size + 1, 0, none⟩ = some (.slice A1 out.length c1) := (blk_cell HHO1.out 0).trans rfl; have he2 := blk_frozen HHO1.out 0; clear ho1 hb1 hg1 hat1))
     have HHO2 := Lib.hid (blk_set HHO1.out 0 (.slice A2 (out.length + 1) c2))
     have HHW2 := Lib.hid (blk_far HHW1.out (p := ⟨w.heap.size + 1, 0, none⟩) (by show w.heap.size ≠ w.heap.size + 1; omega) (.slice A2 (out.length + 1) c2))
     have HHV2 := Lib.hid (Kd.R_set HV1.out HHO1.out (by decide) 0 (.slice A2 (out.length + 1) c2))
     have HBs := Lib.hid (HB1.out.setCell (p := ⟨w.heap.size + 1, 0, none⟩) (by simp) (.slice A2 (out.length + 1) c2))
     go_roundw
     case rel => exact ⟨k + 1, _, out ++ [(k : Int)], by go_num, by omega, ⟨⟨by have := HL.out.1; simp; omega, HL2.out⟩⟩, ⟨HBs.out⟩, ⟨HHW2.out⟩, ⟨HHO2.out⟩, ⟨HHV2.out⟩⟩
     case measure => simp [intOf]; omega
   | false =>
    have HLK := Lib.hid (show (if false = true then Value.tuple #[(Mp.get (k : Int) m).getD (.bool false), .bool (Mp.get (k : Int) m).isSome] else (Mp.get (k : Int) m).getD (.bool false)) = .bool false by rw [if_neg (by decide), HMT.out, hs])
    rw [hs] at hstep
    simp only [Bool.false_and, Bool.false_eq_true, if_false] at hstep
    have HL2 := Lib.hid hstep
    clear hstep hs
    go_wp2_with (at_lookup; refine Mp.wp_lookup_as _ rfl _ _ 45 false rfl 3 4 Try.underlying45 Try.underlying3 zeroB mb m rfl (HMo.out.alloc _) (k : Int) rfl (.bool false) HLK.out ?_)
    have HBn := Lib.hid (below_alloc HB.out (.cells #[.int .i64 (k : Int)] 3))
    have HHW := Lib.hid ((Below.heap_alloc wo (.cells #[.int .i64 (k : Int)] 3) _ (by omega)).trans HW.out)
    have HHO := Lib.hid ((Below.heap_alloc wo (.cells #[.int .i64 (k : Int)] 3) _ (by omega)).trans HO.out)
    have HHV := Lib.hid (Kd.R_alloc HV.out (.cells #[.int .i64 (k : Int)] 3))
    go_roundw
    case rel => exact ⟨k + 1, _, out, by go_num, by omega, ⟨⟨by have := HL.out.1; omega, HL2.out⟩⟩, ⟨HBn.out⟩, ⟨HHW.out⟩, ⟨HHO.out⟩, ⟨HHV.out⟩⟩
    case measure => simp [intOf]; omega
  ·have hltz : ¬ (k : Int) < (N : Int) := by omega
   have e : k = N := by omega
   have hres := HL.out.2
   rw [e, Nat.sub_self] at hres
   have e9 : goneL (hasKey m) counts N 0 [] = out := by rw [← hres]; rfl
   have HRES := Lib.hid (show Kd.R (Kd.int .i64) 3 wo w.heap.size (fun _ => True) (.slice A1 out.length c1) (goneL (hasKey m) counts N 0 []) by rw [e9]; exact HV.out)
   clear hres e e9
   go_wp2
   go_ret
   exact ⟨.slice A1 out.length c1, rfl, HRES.out, HB.out⟩
end Go.Proofs.Ytdmbibjgiehboaa.X
