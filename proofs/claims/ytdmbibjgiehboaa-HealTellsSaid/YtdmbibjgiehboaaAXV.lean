-- Cut by a program of this session (wip/pr/pack.py) to what one claim needs.
import Derived.Test.YtdmbibjgiehboaaAXHd
import Derived.Test.YtdmbibjgiehboaaAX
namespace Go.Proofs.Ytdmbibjgiehboaa.X
open Go.RowKit Go.Shelf Go.Lib Go.Sort Go.Proofs.YtdmbibjgiehboaaW.PrintWords Go.Proofs.YtdmbibjgiehboaaW.PrintLast Go.Proofs.YtdmbibjgiehboaaW.PrintMore Go.Proofs.Ytdmbibjgiehboaa.P
set_option linter.unusedVariables false
set_option linter.unusedSimpArgs false
def voidStep (a4 : Int) (out : List Int) (f : Fd) : List Int := if decide (a4 ≤ f.f3.f2) && !decide (f.f0 ∈ out) then out ++ [f.f0] else out
def voidL (a4 : Int) (l : List Fd) : List Int := l.foldl (voidStep a4) []
theorem voidL_len (a4 : Int) (l : List Fd) : (voidL a4 l).length ≤ l.length := by
 have key : ∀ (l : List Fd) (out : List Int), (l.foldl (voidStep a4) out).length ≤ out.length + l.length := by
  intro l
  induction l with
  | nil => intro out; simp
  | cons f l ih =>
   intro out
   have := ih (voidStep a4 out f)
   rw [List.foldl_cons, List.length_cons]
   have h2 : (voidStep a4 out f).length ≤ out.length + 1 := by unfold voidStep; split <;> simp
   omega
 have := key l []
 simpa [voidL] using this
theorem voidL_snoc (a4 : Int) (l : List Fd) (k : Nat) (f : Fd) (h : k < l.length) (hf : l[k]! = f) : voidL a4 (l.take (k + 1)) = voidStep a4 (voidL a4 (l.take k)) f := by
 rw [take_at l k f h hf]; unfold voidL; rw [List.foldl_append]; rfl
def heal_Void.f (l0 : List Fd) (a1 a2 a3 a4 : Int) : Option (List Int) := if l0.length ≤ 1000 then some ((voidL a4 (mineL a1 a2 a3 l0)).mergeSort fun x y => decide (x ≤ y)) else none
set_option maxHeartbeats 6400000 in
set_option maxRecDepth 100000 in
theorem heal_Void.calls (A0 : Option Addr) (c0 : Nat) (l0 : List Fd) (a1 a2 a3 a4 : Int) (r : List Int) (w : World) (hr0 : Kd.C k36 w A0 l0.length l0) (hc0 : l0.length ≤ c0) (h : heal_Void.f l0 a1 a2 a3 a4 = some r) :
  Calls Try.prog 14 #[.slice A0 l0.length c0, .int .i64 a1, .int .i64 a2, .int .i64 a3, .int .i64 a4] w fun e w' => ∃ v0_ : Value, e = .returned v0_ ∧ Kd.R (Kd.int .i64) 3 w' w.heap.size (fun _ => True) v0_ r ∧ Below w.heap.size w w' := by
 unfold heal_Void.f at h
 by_cases hl : l0.length ≤ 1000
 ·rw [if_pos hl] at h
  have h := Option.some.inj h
  subst h
  have hu2 := Try.underlying36
  have hu3 := Try.underlying34
  have hu := Try.underlying47
  have HLK := Lib.hid (look_calls A0 c0 l0 a1 a2 a3 a4 w hr0 hl)
  have hml : (mineL a1 a2 a3 l0).length ≤ 1000 := Nat.le_trans (List.length_filter_le _ _) hl
  obtain ⟨ml, hml0⟩ : ∃ ml, mineL a1 a2 a3 l0 = ml := ⟨_, rfl⟩
  rw [hml0] at HLK hml ⊢
  clear hr0 hml0
  have hfd : ∀ (x0 : Int) (mb : Nat) (Ac : Option Addr) (nc cc : Nat) (Am : Option Addr) (nm cm : Nat) (w : World), (Instr.field 47 (.agg #[.int .i64 x0, .map (some mb), .slice Ac nc cc, .slice Am nm cm]) 3).run Try.prog w = .ok (.slice Am nm cm) w := fun _ _ _ _ _ _ _ _ _ => by kernel_rfl
  go_enter Try.func14, Try.ntmps14
  go_wp2_with (go_at_call 17; refine HLK.out.mono ?_; rintro e w1 ⟨mb, vc, vm, rfl, hm1, hc1, hv1, hb1⟩; obtain ⟨Am, cm, rfl, hlm, hCm⟩ := Kd.R_reads hv1; obtain ⟨Ac, cc, rfl, hlc, hCc⟩ := Kd.R_reads hc1; clear hCc hlc; have HC := Lib.hid hCm; have HB1 := Lib.hid hb1; clear hm1 hc1 hv1 hb1 hCm)
  go_loopw [11, 22] (fun s11 s22 wr => ∃ (k : Nat) (v : Value), s22 = .int .i64 (k : Int) ∧ k ≤ ml.length ∧ s11 = v ∧ Aside0 (Below w1.heap.size w1 wr) ∧ Aside0 (Kd.R (Kd.int .i64) 3 wr w1.heap.size (fun _ => True) v (voidL a4 (ml.take k))))
   (fun _ s22 _ => ml.length - (intOf s22).toNat)
  case atStart => exact ⟨0, .slice none 0 0, rfl, by omega, rfl, ⟨Below.refl _ _⟩, ⟨Kd.R_nil _ _ _ _ _⟩⟩
  case round =>
   obtain ⟨k, v, rfl, hk, rfl, HB, HV⟩ := hrel
   obtain ⟨wo, rfl⟩ : ∃ wo : World, wo = wr := ⟨_, rfl⟩
   obtain ⟨Av, cv, rfl, hlv, hCv⟩ := Kd.R_reads HV.out
   have HCV := Lib.hid hCv
   clear hCv
   have hvl := Nat.le_trans (voidL_len a4 (ml.take k)) (List.length_take_le _ _)
   by_cases hlt : k < ml.length
   ·have hltz : (k : Int) < (ml.length : Int) := by omega
    obtain ⟨b, o, hA, hb, hcs⟩ := fcells (Kd.C_below HC.out HB.out) (by omega)
    subst hA
    obtain ⟨f, hf⟩ : ∃ f, ml[k]! = f := ⟨_, rfl⟩
    have hq : ∀ i v, (encF f)[i]? = some v → wo.cell? ⟨b, o + k * 10 + i, none⟩ = some v := fun i v hi => hcs k hlt i v (by rw [hf]; exact hi)
    have q0 : wo.cell? ⟨b, o + k * 10, none⟩ = some (.int .i64 f.f0) := hq 0 _ rfl
    have q1 := hq 1 _ rfl
    have q2 := hq 2 _ rfl
    have q3 := hq 3 _ rfl
    have q4 := hq 4 _ rfl
    have q5 := hq 5 _ rfl
    have q6 := hq 6 _ rfl
    have q7 := hq 7 _ rfl
    have q8 := hq 8 _ rfl
    have q9 := hq 9 _ rfl
    have ev := voidL_snoc a4 ml k f hlt hf
    unfold voidStep at ev
    clear hf hq hcs
    by_cases hsz4 : a4 ≤ f.f3.f2
    ·cases hq : decide (f.f0 ∈ voidL a4 (ml.take k)) with
     | true =>
      rw [decide_eq_true hsz4, hq] at ev
      simp only [Bool.not_true, Bool.and_false, Bool.false_eq_true, if_false] at ev
      have EV := Lib.hid ev
      have HQ := Lib.hid hq
      clear ev hq
      go_wp2_with (go_at_call 19; refine (contains_calls Av cv (voidL a4 (ml.take k)) f.f0 _ (Kd.C_alloc HCV.out _) hlv).mono ?_; rw [HQ.out]; rintro e w2 ⟨rfl, hd⟩; have hb2 := hd.below; have HF2 := Lib.hid (blk_below (blk_new wo (.cells (encF f).toArray 36 (0, 0))) hb2); obtain ⟨x0, x1, x2, x3, x4, x5, x6, x7, x8, x9⟩ := fdcells HF2.out; have HB2 := Lib.hid (below_then (below_alloc HB.out (.cells (encF f).toArray 36 (0, 0))) (by have := HB.out.size; simp; omega) hb2); have HV2 := Lib.hid (Kd.R_below (Kd.R_alloc HV.out (.cells (encF f).toArray 36 (0, 0))) hb2); clear hd hb2)
      go_roundw
      case rel => exact ⟨k + 1, _, by go_num, by omega, rfl, ⟨HB2.out⟩, ⟨by rw [EV.out]; exact HV2.out⟩⟩
      case measure => simp [intOf]; omega
     | false =>
      rw [decide_eq_true hsz4, hq] at ev
      simp only [Bool.not_false, Bool.and_true, if_true] at ev
      have EV := Lib.hid ev
      have HQ := Lib.hid hq
      clear ev hq
      go_wp2_with (first
       | (go_at_call 19; refine (contains_calls Av cv (voidL a4 (ml.take k)) f.f0 _ (Kd.C_alloc HCV.out _) hlv).mono ?_; rw [HQ.out]; rintro e w2 ⟨rfl, hd⟩; have hb2 := hd.below; have HF2 := Lib.hid (blk_below (blk_new wo (.cells (encF f).toArray 36 (0, 0))) hb2); obtain ⟨x0, x1, x2, x3, x4, x5, x6, x7, x8, x9⟩ := fdcells HF2.out; have HB2 := Lib.hid (below_then (below_alloc HB.out (.cells (encF f).toArray 36 (0, 0))) (by have := HB.out.size; simp; omega) hb2); have HV2 := Lib.hid (Kd.R_below (Kd.R_alloc HV.out (.cells (encF f).toArray 36 (0, 0))) hb2); clear hd hb2)
       | (at_builtin; refine Kd.R_append (Kd.int .i64) (w0 := w1) w1.heap.size rfl (.tmp 38) (.tmp 41) 26 3 (.int .i64 0) 8 rfl Try.underlying26 info3 rfl (by decide) (by omega) (.slice Av (voidL a4 (ml.take k)).length cv) (voidL a4 (ml.take k)) f.f0 [.int .i64 f.f0] (fun _ => True) (fun _ => False) rfl rfl rfl (fun _ hk => hk.elim) (fun _ _ => trivial) HV2.out HB2.out HB2.out.size (by omega) ?_; intro v1 w3 ho1 hb1 hg1 hat1; have HV1 := Lib.hid ho1; have HB3 := Lib.hid hb1; clear ho1 hb1 hg1 hat1))
      go_roundw
      case rel => exact ⟨k + 1, _, by go_num, by omega, rfl, ⟨HB3.out⟩, ⟨by rw [EV.out]; exact HV1.out⟩⟩
      case measure => simp [intOf]; omega
    ·rw [decide_eq_false hsz4] at ev
     simp only [Bool.false_and, Bool.false_eq_true, if_false] at ev
     have EV := Lib.hid ev
     clear ev
     go_wp2
     go_roundw
     case rel => exact ⟨k + 1, _, by go_num, by omega, rfl, ⟨below_alloc HB.out _⟩, ⟨by rw [EV.out]; exact Kd.R_alloc HV.out _⟩⟩
     case measure => simp [intOf]; omega
   ·have hltz : ¬ (k : Int) < (ml.length : Int) := by omega
    have e : k = ml.length := by omega
    subst e
    rw [List.take_length] at HV hvl
    have HS := Lib.hid (slices_Sort_int_int.calls (fun _ => True) (.slice Av (voidL a4 ml).length cv) (voidL a4 ml) _ w1 wo HB.out HV.out (by unfold slices_Sort_int_int.f; rw [if_pos (by omega)]))
    go_wp2_with (go_at_call 27; refine HS.out.mono ?_; rintro e w5 ⟨rfl, ho5, hb5, hk5⟩; have HV5 := Lib.hid ho5; have HB5 := Lib.hid hb5; clear ho5 hb5 hk5)
    go_ret
    exact ⟨_, rfl, Kd.R_mono (Kd.R_lower HV5.out HB1.out.size) (fun _ _ => trivial), below_then HB1.out HB1.out.size HB5.out⟩
 ·rw [if_neg hl] at h
  cases h
end Go.Proofs.Ytdmbibjgiehboaa.X
