-- Cut by a program of this session (wip/pr/pack.py) to what one claim needs.
import Derived.Test.YtdmbibjgiehboaaAHealB
import Derived.Test.YtdmbibjgiehboaaAXMp
namespace Go.Proofs.Ytdmbibjgiehboaa.X
open Go.RowKit Go.Shelf Go.Lib Go.Proofs.YtdmbibjgiehboaaW.PrintWords Go.Proofs.YtdmbibjgiehboaaW.PrintLast Go.Proofs.YtdmbibjgiehboaaW.PrintMore Go.Proofs.Ytdmbibjgiehboaa.P Go.Proofs.Ytdmbibjgiehboaa.Hl Go.Proofs.Ytdmbibjgiehboaa.Gen
set_option linter.unusedVariables false
set_option linter.unusedSimpArgs false
def zP : Fd := ⟨0, 0, false, ⟨0, 0, 0, 0, 0, false⟩, ⟨#[]⟩⟩
def refStep (place : Int) (gone : List Int) (best : Option Fd) (f : Fd) : Option Fd :=
 if decide (f.f0 ∈ gone) || !decide (f.f3.f2 = place) then best else match best with | none => some f | some g => if aheadLt f g then some f else some g
def refBest (l : List Fd) (a1 a2 a3 a4 place : Int) : Option Fd := (countsL a1 a2 a3 a4 l).foldl (refStep place (goneOf l a1 a2 a3 a4)) none
def tup (o : Option Fd) : Int × Int × Bool × Int × Int × Int × Int × Int × Bool × ByteArray × Bool :=
 ((o.getD zP).f0, (o.getD zP).f1, (o.getD zP).f2, (o.getD zP).f3.f0, (o.getD zP).f3.f1, (o.getD zP).f3.f2, (o.getD zP).f3.f3, (o.getD zP).f3.f4, (o.getD zP).f3.f5, (o.getD zP).f4, o.isSome)
def almshouseref17_Best.f (l0 : List Fd) (a1 a2 a3 a4 a5 : Int) : Option (Int × Int × Bool × Int × Int × Int × Int × Int × Bool × ByteArray × Bool) :=
 if l0.length ≤ 1000 ∧ a1 ≤ 64 then some (tup (refBest l0 a1 a2 a3 a4 a5)) else none
theorem ref_gone {place : Int} {gone : List Int} {best : Option Fd} {f : Fd} (h : decide (f.f0 ∈ gone) = true) : refStep place gone best f = best := by unfold refStep; rw [h, Bool.true_or, if_pos rfl]
theorem ref_else {place : Int} {gone : List Int} {best : Option Fd} {f : Fd} (h : ¬ f.f3.f2 = place) : refStep place gone best f = best := by unfold refStep; rw [decide_eq_false h, Bool.not_false, Bool.or_true, if_pos rfl]
theorem ref_none {place : Int} {gone : List Int} {f : Fd} (h : decide (f.f0 ∈ gone) = false) (h2 : f.f3.f2 = place) : refStep place gone none f = some f := by unfold refStep; rw [h, decide_eq_true h2]; rfl
theorem ref_new {place : Int} {gone : List Int} {f g : Fd} (h : decide (f.f0 ∈ gone) = false) (h2 : f.f3.f2 = place) (h3 : aheadLt f g = true) : refStep place gone (some g) f = some f := by unfold refStep; rw [h, decide_eq_true h2]; simp [h3]
theorem ref_old {place : Int} {gone : List Int} {f g : Fd} (h : decide (f.f0 ∈ gone) = false) (h2 : f.f3.f2 = place) (h3 : aheadLt f g = false) : refStep place gone (some g) f = some g := by unfold refStep; rw [h, decide_eq_true h2]; simp [h3]
theorem rnew_f (f g : Fd) : almshouseref08_Newer.f f.f3.f0 f.f3.f1 f.f3.f2 f.f3.f3 f.f3.f4 f.f3.f5 g.f3.f0 g.f3.f1 g.f3.f2 g.f3.f3 g.f3.f4 g.f3.f5 = some (newerB f g) := newer_f f g
theorem fold_snoc {place : Int} {gone : List Int} (l : List Fd) (k : Nat) (f : Fd) (h : k < l.length) (hf : l[k]! = f) : (l.take (k + 1)).foldl (refStep place gone) none = refStep place gone ((l.take k).foldl (refStep place gone) none) f := by
 rw [take_at l k f h hf, List.foldl_append]; rfl
def BSt (w : World) (Bb b1 b2 : Nat) (g : Fd) (vg vc : Value) (go : List Int) (cs : List Fd) (W : World) : Prop :=
 Below w.heap.size w W ∧ W.heap[w.heap.size]? = some (.cells #[.int .i64 0, .int .i64 0, .bool false, .int .i64 0, .int .i64 0, .int .i64 0, .int .i64 0, .int .i64 0, .bool false, .string ⟨#[]⟩] 36 (0, 0)) ∧ W.heap[Bb]? = some (.cells #[.int .i64 g.f0, .int .i64 g.f1, .bool g.f2, .int .i64 g.f3.f0, .int .i64 g.f3.f1, .int .i64 g.f3.f2, .int .i64 g.f3.f3, .int .i64 g.f3.f4, .bool g.f3.f5, .string g.f4] 36 (0, 0))
  ∧ Kd.R (Kd.int .i64) 3 W b1 (fun k => True ∧ k ≠ Bb) vg go ∧ Kd.R k36 36 W b2 (fun k => True ∧ k ≠ Bb) vc cs ∧ w.heap.size < Bb
theorem BSt.below {w W W' : World} {Bb b1 b2 : Nat} {g : Fd} {vg vc : Value} {go : List Int} {cs : List Fd} (h : BSt w Bb b1 b2 g vg vc go cs W) (hb : Below W.heap.size W W') : BSt w Bb b1 b2 g vg vc go cs W' := by
 obtain ⟨h1, h2, h3, h4, h5, h6⟩ := h
 exact ⟨below_then h1 h1.size hb, blk_below h2 hb, blk_below h3 hb, Kd.R_below h4 hb, Kd.R_below h5 hb, h6⟩
theorem BSt.alloc {w W : World} {Bb b1 b2 : Nat} {g : Fd} {vg vc : Value} {go : List Int} {cs : List Fd} (h : BSt w Bb b1 b2 g vg vc go cs W) (o : Obj) : BSt w Bb b1 b2 g vg vc go cs (W.alloc o) := h.below (below_alloc (Below.refl _ _) o)
theorem BSt.store {w W W' : World} {Bb b1 b2 : Nat} {f g : Fd} {vg vc : Value} {go : List Int} {cs : List Fd} (h : BSt w Bb b1 b2 g vg vc go cs W) (hf : W'.heap[Bb]? = some (.cells #[.int .i64 f.f0, .int .i64 f.f1, .bool f.f2, .int .i64 f.f3.f0, .int .i64 f.f3.f1, .int .i64 f.f3.f2, .int .i64 f.f3.f3, .int .i64 f.f3.f4, .bool f.f3.f5, .string f.f4] 36 (0, 0))) (hg : W.grownBy W' (some Bb)) : BSt w Bb b1 b2 f vg vc go cs W' := by
 obtain ⟨h1, h2, h3, h4, h5, h6⟩ := h
 exact ⟨h1.grown hg h1.size (fun k hk => by cases hk; omega), blk_grown h2 hg (fun e => by have := Option.some.inj e; omega), hf, Kd.R_grown h4 hg (fun k hk e => hk.2 (Option.some.inj e)), Kd.R_grown h5 hg (fun k hk e => hk.2 (Option.some.inj e)), h6⟩
theorem sz36 : (Try.prog.info? 36).map (·.size) = some 10 := by kernel_rfl
theorem fd_one {f : Fd} : ∀ q ∈ ([.int .i64 f.f0, .int .i64 f.f1, .bool f.f2, .int .i64 f.f3.f0, .int .i64 f.f3.f1, .int .i64 f.f3.f2, .int .i64 f.f3.f3, .int .i64 f.f3.f4, .bool f.f3.f5, .string f.f4] : List Value), q.oneCell' = true := by
 intro q hq
 simp at hq
 rcases hq with rfl | rfl | rfl | rfl | rfl | rfl | rfl | rfl | rfl | rfl <;> rfl
set_option maxHeartbeats 25600000 in
set_option maxRecDepth 100000 in
theorem almshouseref17_Best.calls (A0 : Option Addr) (c0 : Nat) (l0 : List Fd) (a1 a2 a3 a4 a5 : Int) (r1 r2 : Int) (r3 : Bool) (r4 r5 r6 r7 r8 : Int) (r9 : Bool) (r10 : ByteArray) (r11 : Bool) (w : World) (hr0 : Kd.C k36 w A0 l0.length l0) (hc0 : l0.length ≤ c0)
  (h : almshouseref17_Best.f l0 a1 a2 a3 a4 a5 = some (r1, r2, r3, r4, r5, r6, r7, r8, r9, r10, r11)) :
  Calls Try.prog 12 #[.slice A0 l0.length c0, .int .i64 a1, .int .i64 a2, .int .i64 a3, .int .i64 a4, .int .i64 a5] w fun e w' => e = .returned (.tuple #[.agg #[.int .i64 r1, .int .i64 r2, .bool r3, .int .i64 r4, .int .i64 r5, .int .i64 r6, .int .i64 r7, .int .i64 r8, .bool r9, .string r10], .bool r11]) ∧ Below w.heap.size w w' := by
 unfold almshouseref17_Best.f at h
 by_cases hl : l0.length ≤ 1000 ∧ a1 ≤ 64
 ·rw [if_pos hl] at h
  have h := Option.some.inj h
  unfold tup at h
  simp only [Prod.mk.injEq] at h
  obtain ⟨rfl, rfl, rfl, rfl, rfl, rfl, rfl, rfl, rfl, rfl, rfl⟩ := h
  clear h
  obtain ⟨hl, hbl⟩ := hl
  have hu2 := Try.underlying36
  have hu3 := Try.underlying34
  obtain ⟨kg, hkg⟩ := ev_ex (Go_ok l0 a1 a2 a3 a4 hl hbl)
  obtain ⟨kc, hkc⟩ := ev_ex (counting_ok l0 a1 a2 a3 a4 hl)
  have hgl : (goneOf l0 a1 a2 a3 a4).length ≤ 64 := by
   unfold goneOf
   have := goneL_len (hasKey (mapOf a1 l0)) (countsL a1 a2 a3 a4 l0) (max a1 0).toNat 0 []
   simp at this
   omega
  have hcl : (countsL a1 a2 a3 a4 l0).length ≤ 1000 := Nat.le_trans (List.length_filter_le _ _) hl
  unfold refBest
  obtain ⟨go, hgo⟩ : ∃ go, goneOf l0 a1 a2 a3 a4 = go := ⟨_, rfl⟩
  obtain ⟨cl, hcl0⟩ : ∃ cl, countsL a1 a2 a3 a4 l0 = cl := ⟨_, rfl⟩
  rw [hgo] at hkg hgl ⊢
  rw [hcl0] at hkc hcl ⊢
  have HKG := Lib.hid (fun W hb => almshouseref17_Go.calls kg A0 c0 l0 a1 a2 a3 a4 go W (Kd.C_below hr0 hb) hc0 hkg)
  have HKC := Lib.hid (fun W hb => almshouseref17_counting.calls kc A0 c0 l0 a1 a2 a3 a4 cl W (Kd.C_below hr0 hb) hc0 hkc)
  clear hkg hkc hgo hcl0 hr0
  go_enter Try.func12, Try.ntmps12
  go_wp2_with (first
   | (go_at_call 10; refine (HKG.out _ (below_alloc (Below.refl _ _) _)).mono ?_; rintro e w1 ⟨vg, rfl, hg1, hb1⟩; have HG1 := Lib.hid hg1; have HB1 := Lib.hid (below_then (below_alloc (Below.refl w.heap.size w) _) (by simp) hb1); have HR1 := Lib.hid (blk_below (blk_new w (.cells #[.int .i64 0, .int .i64 0, .bool false, .int .i64 0, .int .i64 0, .int .i64 0, .int .i64 0, .int .i64 0, .bool false, .string ⟨#[]⟩] 36 (0, 0))) hb1); clear hg1 hb1)
   | (go_at_call 24; refine (HKC.out _ (below_alloc HB1.out _)).mono ?_; rintro e w2 ⟨vc, rfl, hc2, hb2⟩; have HC2 := Lib.hid hc2; have HB2 := Lib.hid (below_then (below_alloc HB1.out _) (below_alloc HB1.out _).size hb2); have HR2 := Lib.hid (blk_below (blk_alloc HR1.out _) hb2); have HZ2 := Lib.hid (blk_below (blk_new w1 (.cells #[.int .i64 0, .int .i64 0, .bool false, .int .i64 0, .int .i64 0, .int .i64 0, .int .i64 0, .int .i64 0, .bool false, .string ⟨#[]⟩] 36 (0, 0))) hb2); have HG2 := Lib.hid (Kd.R_below (Kd.R_alloc HG1.out _) hb2); clear hc2 hb2; obtain ⟨Ac, cc, rfl, hlc, hCc⟩ := Kd.R_reads HC2.out; clear hCc))
  have hz1 : w.heap.size < w1.heap.size := by have := HR1.out; exact blk_lt this
  obtain ⟨b1, b2, hst⟩ : ∃ b1 b2, BSt w w1.heap.size b1 b2 zP vg (.slice Ac cl.length cc) go cl w2 := ⟨_, _, HB2.out, HR2.out, HZ2.out, Kd.R_types HG2.out HZ2.out (by decide), Kd.R_mono (Kd.R_bound HC2.out) (fun k hk => ⟨trivial, by have := hk.2.1; simp at this; omega⟩), hz1⟩
  have HST := Lib.hid hst
  clear hst
  obtain ⟨Ag, cg, rfl, hlg, hCg⟩ := Kd.R_reads HG2.out
  clear hCg HG1 HR1 HR2 HZ2 HKG HKC
  go_loopw [16, 34] (fun s16 s34 wr => ∃ (k : Nat) (best : Option Fd) (sB : Bool), s34 = .int .i64 (k : Int) ∧ s16 = .bool sB ∧ k ≤ cl.length ∧ Aside0 (sB = best.isSome) ∧ Aside0 ((cl.take k).foldl (refStep a5 go) none = best) ∧ Aside0 (BSt w w1.heap.size b1 b2 (best.getD zP) (.slice Ag go.length cg) (.slice Ac cl.length cc) go cl wr)) (fun _ s34 _ => cl.length - (intOf s34).toNat)
  case atStart => exact ⟨0, none, false, rfl, rfl, by omega, ⟨rfl⟩, ⟨rfl⟩, ⟨HST.out⟩⟩
  case round =>
   obtain ⟨k, best, sB, rfl, rfl, hk, HSB, HE, HS⟩ := hrel
   obtain ⟨wo, rfl⟩ : ∃ wo : World, wo = wr := ⟨_, rfl⟩
   obtain ⟨g, hg⟩ : ∃ g, best.getD zP = g := ⟨_, rfl⟩
   rw [hg] at HS
   have HGG := Lib.hid hg
   clear hg
   have hz2 : w1.heap.size < wo.heap.size := blk_lt HS.out.2.2.1
   obtain ⟨_, _, HCo⟩ := Kd.R_reads' HS.out.2.2.2.2.1
   have HCo := Lib.hid HCo
   obtain ⟨_, _, HGo⟩ := Kd.R_reads' HS.out.2.2.2.1
   have HGo := Lib.hid HGo
   by_cases hlt : k < cl.length
   ·have hltz : (k : Int) < (cl.length : Int) := by omega
    obtain ⟨b, o, hA, hb, hcs⟩ := fcells HCo.out (by omega)
    subst hA
    obtain ⟨f, hf⟩ : ∃ f, cl[k]! = f := ⟨_, rfl⟩
    have hq : ∀ i v, (encF f)[i]? = some v → wo.cell? ⟨b, o + k * 10 + i, none⟩ = some v := fun i v hi => hcs k hlt i v (by rw [hf]; exact hi)
    have q0 : wo.cell? ⟨b, o + k * 10, none⟩ = some (.int .i64 f.f0) := hq 0 _ rfl
    have q1 := hq 1 _ rfl
    have q2 := hq 2 _ rfl
    have q3 := hq 3 _ rfl
    have q4 := hq 4 _ rfl
    have q5 := hq 5 _ rfl
    have q6 := hq 6 _ rfl
    have q7 := hq 7 _ rfl
    have q8 := hq 8 _ rfl
    have q9 := hq 9 _ rfl
    have es := fold_snoc (place := a5) (gone := go) cl k f hlt hf
    rw [HE.out] at es
    clear hf hq hcs
    obtain ⟨kh, hkh⟩ := ev_ex (has_ok go f.f0 (by omega))
    cases hin : decide (f.f0 ∈ go) with
    | true =>
     rw [hin] at hkh
     have HHAS := Lib.hid hkh
     rw [ref_gone hin] at es
     have ES := Lib.hid es
     clear es hkh hin
     go_wp2_with (go_at_call 25; refine (almshouseref17_has.calls kh Ag cg go f.f0 _ _ (Kd.C_alloc HGo.out _) hlg HHAS.out).mono ?_; rintro e w3 ⟨rfl, hd⟩; have hb3 := hd.below; have HS3 := Lib.hid ((HS.out.alloc (.cells #[.int .i64 f.f0, .int .i64 f.f1, .bool f.f2, .int .i64 f.f3.f0, .int .i64 f.f3.f1, .int .i64 f.f3.f2, .int .i64 f.f3.f3, .int .i64 f.f3.f4, .bool f.f3.f5, .string f.f4] 36 (0, 0))).below hb3); have HF3 := Lib.hid (blk_below (blk_new wo (.cells #[.int .i64 f.f0, .int .i64 f.f1, .bool f.f2, .int .i64 f.f3.f0, .int .i64 f.f3.f1, .int .i64 f.f3.f2, .int .i64 f.f3.f3, .int .i64 f.f3.f4, .bool f.f3.f5, .string f.f4] 36 (0, 0))) hb3); have hz5 : wo.heap.size < w3.heap.size := blk_lt HF3.out; obtain ⟨x0, x1, x2, x3, x4, x5, x6, x7, x8, x9⟩ := fdcells HF3.out; obtain ⟨u0, u1, u2, u3, u4, u5, u6, u7, u8, u9⟩ := fdcells HS3.out.2.2.1; clear hd hb3)
     go_roundw
     case rel => exact ⟨k + 1, best, sB, by go_num, rfl, by omega, HSB, ⟨ES.out⟩, ⟨by rw [HGG.out]; exact HS3.out⟩⟩
     case measure => simp [intOf]; omega
    | false =>
     rw [hin] at hkh
     have HHAS := Lib.hid hkh
     clear hkh
     by_cases hpl : f.f3.f2 = a5
     ·have hpl1 : (f.f3.f2 != a5) = false := bne_eq_false_iff_eq.mpr hpl
      cases best with
      | none =>
       obtain rfl : sB = false := HSB.out
       rw [ref_none hin hpl] at es
       have ES := Lib.hid es
       clear es hin hpl
       by_cases h3 : f.f0 < g.f0
       ·skip
        go_wp2_with (first
         | (go_at_call 25; refine (almshouseref17_has.calls kh Ag cg go f.f0 _ _ (Kd.C_alloc HGo.out _) hlg HHAS.out).mono ?_; rintro e w3 ⟨rfl, hd⟩; have hb3 := hd.below; have HS3 := Lib.hid ((HS.out.alloc (.cells #[.int .i64 f.f0, .int .i64 f.f1, .bool f.f2, .int .i64 f.f3.f0, .int .i64 f.f3.f1, .int .i64 f.f3.f2, .int .i64 f.f3.f3, .int .i64 f.f3.f4, .bool f.f3.f5, .string f.f4] 36 (0, 0))).below hb3); have HF3 := Lib.hid (blk_below (blk_new wo (.cells #[.int .i64 f.f0, .int .i64 f.f1, .bool f.f2, .int .i64 f.f3.f0, .int .i64 f.f3.f1, .int .i64 f.f3.f2, .int .i64 f.f3.f3, .int .i64 f.f3.f4, .bool f.f3.f5, .string f.f4] 36 (0, 0))) hb3); have hz5 : wo.heap.size < w3.heap.size := blk_lt HF3.out; obtain ⟨x0, x1, x2, x3, x4, x5, x6, x7, x8, x9⟩ := fdcells HF3.out; obtain ⟨u0, u1, u2, u3, u4, u5, u6, u7, u8, u9⟩ := fdcells HS3.out.2.2.1; clear hd hb3)
         | ((with_reducible refine gate_store (t := 36) (p := 15) (v := .tmp 100) rfl ?_); refine Mp.wp_store_whole _ rfl rfl 36 (.tmp 15) (.tmp 100) rfl w1.heap.size _ _ HS3.out.2.2.1 rfl (.agg #[.int .i64 f.f0, .int .i64 f.f1, .bool f.f2, .int .i64 f.f3.f0, .int .i64 f.f3.f1, .int .i64 f.f3.f2, .int .i64 f.f3.f3, .int .i64 f.f3.f4, .bool f.f3.f5, .string f.f4]) [.int .i64 f.f0, .int .i64 f.f1, .bool f.f2, .int .i64 f.f3.f0, .int .i64 f.f3.f1, .int .i64 f.f3.f2, .int .i64 f.f3.f3, .int .i64 f.f3.f4, .bool f.f3.f5, .string f.f4] rfl rfl sz36 fd_one rfl ?_; intro w9 hf9 hg9 hs9; have HS9 := Lib.hid (HS3.out.store hf9 hg9); clear hf9 hg9 hs9))
        go_roundw
        case rel => exact ⟨k + 1, some f, true, by go_num, rfl, by omega, ⟨rfl⟩, ⟨ES.out⟩, ⟨HS9.out⟩⟩
        case measure => simp [intOf]; omega
       ·by_cases h4 : f.f0 = g.f0
        ·by_cases h5 : f.f1 < g.f1
         ·have h4e : (f.f0 == g.f0) = true := beq_iff_eq.mpr h4
          clear h4
          go_wp2_with (first
           | (go_at_call 25; refine (almshouseref17_has.calls kh Ag cg go f.f0 _ _ (Kd.C_alloc HGo.out _) hlg HHAS.out).mono ?_; rintro e w3 ⟨rfl, hd⟩; have hb3 := hd.below; have HS3 := Lib.hid ((HS.out.alloc (.cells #[.int .i64 f.f0, .int .i64 f.f1, .bool f.f2, .int .i64 f.f3.f0, .int .i64 f.f3.f1, .int .i64 f.f3.f2, .int .i64 f.f3.f3, .int .i64 f.f3.f4, .bool f.f3.f5, .string f.f4] 36 (0, 0))).below hb3); have HF3 := Lib.hid (blk_below (blk_new wo (.cells #[.int .i64 f.f0, .int .i64 f.f1, .bool f.f2, .int .i64 f.f3.f0, .int .i64 f.f3.f1, .int .i64 f.f3.f2, .int .i64 f.f3.f3, .int .i64 f.f3.f4, .bool f.f3.f5, .string f.f4] 36 (0, 0))) hb3); have hz5 : wo.heap.size < w3.heap.size := blk_lt HF3.out; obtain ⟨x0, x1, x2, x3, x4, x5, x6, x7, x8, x9⟩ := fdcells HF3.out; obtain ⟨u0, u1, u2, u3, u4, u5, u6, u7, u8, u9⟩ := fdcells HS3.out.2.2.1; clear hd hb3)
           | ((with_reducible refine gate_store (t := 36) (p := 15) (v := .tmp 100) rfl ?_); refine Mp.wp_store_whole _ rfl rfl 36 (.tmp 15) (.tmp 100) rfl w1.heap.size _ _ HS3.out.2.2.1 rfl (.agg #[.int .i64 f.f0, .int .i64 f.f1, .bool f.f2, .int .i64 f.f3.f0, .int .i64 f.f3.f1, .int .i64 f.f3.f2, .int .i64 f.f3.f3, .int .i64 f.f3.f4, .bool f.f3.f5, .string f.f4]) [.int .i64 f.f0, .int .i64 f.f1, .bool f.f2, .int .i64 f.f3.f0, .int .i64 f.f3.f1, .int .i64 f.f3.f2, .int .i64 f.f3.f3, .int .i64 f.f3.f4, .bool f.f3.f5, .string f.f4] rfl rfl sz36 fd_one rfl ?_; intro w9 hf9 hg9 hs9; have HS9 := Lib.hid (HS3.out.store hf9 hg9); clear hf9 hg9 hs9))
          go_roundw
          case rel => exact ⟨k + 1, some f, true, by go_num, rfl, by omega, ⟨rfl⟩, ⟨ES.out⟩, ⟨HS9.out⟩⟩
          case measure => simp [intOf]; omega
         ·have h4e : (f.f0 == g.f0) = true := beq_iff_eq.mpr h4
          clear h4
          go_wp2_with (first
           | (go_at_call 25; refine (almshouseref17_has.calls kh Ag cg go f.f0 _ _ (Kd.C_alloc HGo.out _) hlg HHAS.out).mono ?_; rintro e w3 ⟨rfl, hd⟩; have hb3 := hd.below; have HS3 := Lib.hid ((HS.out.alloc (.cells #[.int .i64 f.f0, .int .i64 f.f1, .bool f.f2, .int .i64 f.f3.f0, .int .i64 f.f3.f1, .int .i64 f.f3.f2, .int .i64 f.f3.f3, .int .i64 f.f3.f4, .bool f.f3.f5, .string f.f4] 36 (0, 0))).below hb3); have HF3 := Lib.hid (blk_below (blk_new wo (.cells #[.int .i64 f.f0, .int .i64 f.f1, .bool f.f2, .int .i64 f.f3.f0, .int .i64 f.f3.f1, .int .i64 f.f3.f2, .int .i64 f.f3.f3, .int .i64 f.f3.f4, .bool f.f3.f5, .string f.f4] 36 (0, 0))) hb3); have hz5 : wo.heap.size < w3.heap.size := blk_lt HF3.out; obtain ⟨x0, x1, x2, x3, x4, x5, x6, x7, x8, x9⟩ := fdcells HF3.out; obtain ⟨u0, u1, u2, u3, u4, u5, u6, u7, u8, u9⟩ := fdcells HS3.out.2.2.1; clear hd hb3)
           | ((with_reducible refine gate_store (t := 36) (p := 15) (v := .tmp 100) rfl ?_); refine Mp.wp_store_whole _ rfl rfl 36 (.tmp 15) (.tmp 100) rfl w1.heap.size _ _ HS3.out.2.2.1 rfl (.agg #[.int .i64 f.f0, .int .i64 f.f1, .bool f.f2, .int .i64 f.f3.f0, .int .i64 f.f3.f1, .int .i64 f.f3.f2, .int .i64 f.f3.f3, .int .i64 f.f3.f4, .bool f.f3.f5, .string f.f4]) [.int .i64 f.f0, .int .i64 f.f1, .bool f.f2, .int .i64 f.f3.f0, .int .i64 f.f3.f1, .int .i64 f.f3.f2, .int .i64 f.f3.f3, .int .i64 f.f3.f4, .bool f.f3.f5, .string f.f4] rfl rfl sz36 fd_one rfl ?_; intro w9 hf9 hg9 hs9; have HS9 := Lib.hid (HS3.out.store hf9 hg9); clear hf9 hg9 hs9))
          go_roundw
          case rel => exact ⟨k + 1, some f, true, by go_num, rfl, by omega, ⟨rfl⟩, ⟨ES.out⟩, ⟨HS9.out⟩⟩
          case measure => simp [intOf]; omega
        ·have h4e : (f.f0 == g.f0) = false := beq_eq_false_iff_ne.mpr h4
         clear h4
         go_wp2_with (first
          | (go_at_call 25; refine (almshouseref17_has.calls kh Ag cg go f.f0 _ _ (Kd.C_alloc HGo.out _) hlg HHAS.out).mono ?_; rintro e w3 ⟨rfl, hd⟩; have hb3 := hd.below; have HS3 := Lib.hid ((HS.out.alloc (.cells #[.int .i64 f.f0, .int .i64 f.f1, .bool f.f2, .int .i64 f.f3.f0, .int .i64 f.f3.f1, .int .i64 f.f3.f2, .int .i64 f.f3.f3, .int .i64 f.f3.f4, .bool f.f3.f5, .string f.f4] 36 (0, 0))).below hb3); have HF3 := Lib.hid (blk_below (blk_new wo (.cells #[.int .i64 f.f0, .int .i64 f.f1, .bool f.f2, .int .i64 f.f3.f0, .int .i64 f.f3.f1, .int .i64 f.f3.f2, .int .i64 f.f3.f3, .int .i64 f.f3.f4, .bool f.f3.f5, .string f.f4] 36 (0, 0))) hb3); have hz5 : wo.heap.size < w3.heap.size := blk_lt HF3.out; obtain ⟨x0, x1, x2, x3, x4, x5, x6, x7, x8, x9⟩ := fdcells HF3.out; obtain ⟨u0, u1, u2, u3, u4, u5, u6, u7, u8, u9⟩ := fdcells HS3.out.2.2.1; clear hd hb3)
          | ((with_reducible refine gate_store (t := 36) (p := 15) (v := .tmp 100) rfl ?_); refine Mp.wp_store_whole _ rfl rfl 36 (.tmp 15) (.tmp 100) rfl w1.heap.size _ _ HS3.out.2.2.1 rfl (.agg #[.int .i64 f.f0, .int .i64 f.f1, .bool f.f2, .int .i64 f.f3.f0, .int .i64 f.f3.f1, .int .i64 f.f3.f2, .int .i64 f.f3.f3, .int .i64 f.f3.f4, .bool f.f3.f5, .string f.f4]) [.int .i64 f.f0, .int .i64 f.f1, .bool f.f2, .int .i64 f.f3.f0, .int .i64 f.f3.f1, .int .i64 f.f3.f2, .int .i64 f.f3.f3, .int .i64 f.f3.f4, .bool f.f3.f5, .string f.f4] rfl rfl sz36 fd_one rfl ?_; intro w9 hf9 hg9 hs9; have HS9 := Lib.hid (HS3.out.store hf9 hg9); clear hf9 hg9 hs9))
         go_roundw
         case rel => exact ⟨k + 1, some f, true, by go_num, rfl, by omega, ⟨rfl⟩, ⟨ES.out⟩, ⟨HS9.out⟩⟩
         case measure => simp [intOf]; omega
      | some g0 =>
       obtain rfl : sB = true := HSB.out
       obtain rfl : g0 = g := HGG.out
       have HN1 := Lib.hid (rnew_f f g0)
       have HN2 := Lib.hid (rnew_f g0 f)
       cases hfg : newerB f g0 with
       | true =>
        by_cases h3 : f.f0 < g0.f0
        ·rw [ref_new hin hpl (by unfold aheadLt; rw [hfg]; rfl)] at es
         have ES := Lib.hid es
         rw [hfg] at HN1
         clear es hin hpl hfg HN2
         skip
         have tok1 : True := trivial
         have tok2 : True := trivial
         go_wp2_with (first
          | (go_at_call 25; refine (almshouseref17_has.calls kh Ag cg go f.f0 _ _ (Kd.C_alloc HGo.out _) hlg HHAS.out).mono ?_; rintro e w3 ⟨rfl, hd⟩; have hb3 := hd.below; have HS3 := Lib.hid ((HS.out.alloc (.cells #[.int .i64 f.f0, .int .i64 f.f1, .bool f.f2, .int .i64 f.f3.f0, .int .i64 f.f3.f1, .int .i64 f.f3.f2, .int .i64 f.f3.f3, .int .i64 f.f3.f4, .bool f.f3.f5, .string f.f4] 36 (0, 0))).below hb3); have HF3 := Lib.hid (blk_below (blk_new wo (.cells #[.int .i64 f.f0, .int .i64 f.f1, .bool f.f2, .int .i64 f.f3.f0, .int .i64 f.f3.f1, .int .i64 f.f3.f2, .int .i64 f.f3.f3, .int .i64 f.f3.f4, .bool f.f3.f5, .string f.f4] 36 (0, 0))) hb3); have hz5 : wo.heap.size < w3.heap.size := blk_lt HF3.out; obtain ⟨x0, x1, x2, x3, x4, x5, x6, x7, x8, x9⟩ := fdcells HF3.out; obtain ⟨u0, u1, u2, u3, u4, u5, u6, u7, u8, u9⟩ := fdcells HS3.out.2.2.1; clear hd hb3)
          | (go_at_call 26; have _t := tok1; (with_reducible refine (almshouseref08_Newer.calls f.f3.f0 f.f3.f1 f.f3.f2 f.f3.f3 f.f3.f4 f.f3.f5 g0.f3.f0 g0.f3.f1 g0.f3.f2 g0.f3.f3 g0.f3.f4 g0.f3.f5 _ _ HN1.out).mono ?_); rintro e w4 ⟨rfl, hb⟩; have HS4 := Lib.hid (HS3.out.below hb); have HF4 := Lib.hid (blk_below HF3.out hb); have hz14 : wo.heap.size < w4.heap.size := blk_lt HF4.out; obtain ⟨c40, c41, c42, c43, c44, c45, c46, c47, c48, c49⟩ := fdcells HF4.out; obtain ⟨d40, d41, d42, d43, d44, d45, d46, d47, d48, d49⟩ := fdcells HS4.out.2.2.1; clear hb tok1)
          | (go_at_call 26; have _t := tok2; (with_reducible refine (almshouseref08_Newer.calls f.f3.f0 f.f3.f1 f.f3.f2 f.f3.f3 f.f3.f4 f.f3.f5 g0.f3.f0 g0.f3.f1 g0.f3.f2 g0.f3.f3 g0.f3.f4 g0.f3.f5 _ _ HN1.out).mono ?_); rintro e w5 ⟨rfl, hb⟩; have HS5 := Lib.hid (HS4.out.below hb); have HF5 := Lib.hid (blk_below HF4.out hb); have hz15 : wo.heap.size < w5.heap.size := blk_lt HF5.out; obtain ⟨c50, c51, c52, c53, c54, c55, c56, c57, c58, c59⟩ := fdcells HF5.out; obtain ⟨d50, d51, d52, d53, d54, d55, d56, d57, d58, d59⟩ := fdcells HS5.out.2.2.1; clear hb tok2)
          | ((with_reducible refine gate_store (t := 36) (p := 15) (v := .tmp 100) rfl ?_); refine Mp.wp_store_whole _ rfl rfl 36 (.tmp 15) (.tmp 100) rfl w1.heap.size _ _ HS5.out.2.2.1 rfl (.agg #[.int .i64 f.f0, .int .i64 f.f1, .bool f.f2, .int .i64 f.f3.f0, .int .i64 f.f3.f1, .int .i64 f.f3.f2, .int .i64 f.f3.f3, .int .i64 f.f3.f4, .bool f.f3.f5, .string f.f4]) [.int .i64 f.f0, .int .i64 f.f1, .bool f.f2, .int .i64 f.f3.f0, .int .i64 f.f3.f1, .int .i64 f.f3.f2, .int .i64 f.f3.f3, .int .i64 f.f3.f4, .bool f.f3.f5, .string f.f4] rfl rfl sz36 fd_one rfl ?_; intro w9 hf9 hg9 hs9; have HS9 := Lib.hid (HS5.out.store hf9 hg9); clear hf9 hg9 hs9))
         go_roundw
         case rel => exact ⟨k + 1, some f, true, by go_num, rfl, by omega, ⟨rfl⟩, ⟨ES.out⟩, ⟨HS9.out⟩⟩
         case measure => simp [intOf]; omega
        ·by_cases h4 : f.f0 = g0.f0
         ·by_cases h5 : f.f1 < g0.f1
          ·have h4e : (f.f0 == g0.f0) = true := beq_iff_eq.mpr h4
           rw [ref_new hin hpl (by unfold aheadLt; rw [hfg]; rfl)] at es
           have ES := Lib.hid es
           rw [hfg] at HN1
           clear es hin hpl hfg HN2
           clear h4
           have tok1 : True := trivial
           have tok2 : True := trivial
           go_wp2_with (first
            | (go_at_call 25; refine (almshouseref17_has.calls kh Ag cg go f.f0 _ _ (Kd.C_alloc HGo.out _) hlg HHAS.out).mono ?_; rintro e w3 ⟨rfl, hd⟩; have hb3 := hd.below; have HS3 := Lib.hid ((HS.out.alloc (.cells #[.int .i64 f.f0, .int .i64 f.f1, .bool f.f2, .int .i64 f.f3.f0, .int .i64 f.f3.f1, .int .i64 f.f3.f2, .int .i64 f.f3.f3, .int .i64 f.f3.f4, .bool f.f3.f5, .string f.f4] 36 (0, 0))).below hb3); have HF3 := Lib.hid (blk_below (blk_new wo (.cells #[.int .i64 f.f0, .int .i64 f.f1, .bool f.f2, .int .i64 f.f3.f0, .int .i64 f.f3.f1, .int .i64 f.f3.f2, .int .i64 f.f3.f3, .int .i64 f.f3.f4, .bool f.f3.f5, .string f.f4] 36 (0, 0))) hb3); have hz5 : wo.heap.size < w3.heap.size := blk_lt HF3.out; obtain ⟨x0, x1, x2, x3, x4, x5, x6, x7, x8, x9⟩ := fdcells HF3.out; obtain ⟨u0, u1, u2, u3, u4, u5, u6, u7, u8, u9⟩ := fdcells HS3.out.2.2.1; clear hd hb3)
            | (go_at_call 26; have _t := tok1; (with_reducible refine (almshouseref08_Newer.calls f.f3.f0 f.f3.f1 f.f3.f2 f.f3.f3 f.f3.f4 f.f3.f5 g0.f3.f0 g0.f3.f1 g0.f3.f2 g0.f3.f3 g0.f3.f4 g0.f3.f5 _ _ HN1.out).mono ?_); rintro e w4 ⟨rfl, hb⟩; have HS4 := Lib.hid (HS3.out.below hb); have HF4 := Lib.hid (blk_below HF3.out hb); have hz14 : wo.heap.size < w4.heap.size := blk_lt HF4.out; obtain ⟨c40, c41, c42, c43, c44, c45, c46, c47, c48, c49⟩ := fdcells HF4.out; obtain ⟨d40, d41, d42, d43, d44, d45, d46, d47, d48, d49⟩ := fdcells HS4.out.2.2.1; clear hb tok1)
            | (go_at_call 26; have _t := tok2; (with_reducible refine (almshouseref08_Newer.calls f.f3.f0 f.f3.f1 f.f3.f2 f.f3.f3 f.f3.f4 f.f3.f5 g0.f3.f0 g0.f3.f1 g0.f3.f2 g0.f3.f3 g0.f3.f4 g0.f3.f5 _ _ HN1.out).mono ?_); rintro e w5 ⟨rfl, hb⟩; have HS5 := Lib.hid (HS4.out.below hb); have HF5 := Lib.hid (blk_below HF4.out hb); have hz15 : wo.heap.size < w5.heap.size := blk_lt HF5.out; obtain ⟨c50, c51, c52, c53, c54, c55, c56, c57, c58, c59⟩ := fdcells HF5.out; obtain ⟨d50, d51, d52, d53, d54, d55, d56, d57, d58, d59⟩ := fdcells HS5.out.2.2.1; clear hb tok2)
            | ((with_reducible refine gate_store (t := 36) (p := 15) (v := .tmp 100) rfl ?_); refine Mp.wp_store_whole _ rfl rfl 36 (.tmp 15) (.tmp 100) rfl w1.heap.size _ _ HS5.out.2.2.1 rfl (.agg #[.int .i64 f.f0, .int .i64 f.f1, .bool f.f2, .int .i64 f.f3.f0, .int .i64 f.f3.f1, .int .i64 f.f3.f2, .int .i64 f.f3.f3, .int .i64 f.f3.f4, .bool f.f3.f5, .string f.f4]) [.int .i64 f.f0, .int .i64 f.f1, .bool f.f2, .int .i64 f.f3.f0, .int .i64 f.f3.f1, .int .i64 f.f3.f2, .int .i64 f.f3.f3, .int .i64 f.f3.f4, .bool f.f3.f5, .string f.f4] rfl rfl sz36 fd_one rfl ?_; intro w9 hf9 hg9 hs9; have HS9 := Lib.hid (HS5.out.store hf9 hg9); clear hf9 hg9 hs9))
           go_roundw
           case rel => exact ⟨k + 1, some f, true, by go_num, rfl, by omega, ⟨rfl⟩, ⟨ES.out⟩, ⟨HS9.out⟩⟩
           case measure => simp [intOf]; omega
          ·have h4e : (f.f0 == g0.f0) = true := beq_iff_eq.mpr h4
           rw [ref_new hin hpl (by unfold aheadLt; rw [hfg]; rfl)] at es
           have ES := Lib.hid es
           rw [hfg] at HN1
           clear es hin hpl hfg HN2
           clear h4
           have tok1 : True := trivial
           have tok2 : True := trivial
           go_wp2_with (first
            | (go_at_call 25; refine (almshouseref17_has.calls kh Ag cg go f.f0 _ _ (Kd.C_alloc HGo.out _) hlg HHAS.out).mono ?_; rintro e w3 ⟨rfl, hd⟩; have hb3 := hd.below; have HS3 := Lib.hid ((HS.out.alloc (.cells #[.int .i64 f.f0, .int .i64 f.f1, .bool f.f2, .int .i64 f.f3.f0, .int .i64 f.f3.f1, .int .i64 f.f3.f2, .int .i64 f.f3.f3, .int .i64 f.f3.f4, .bool f.f3.f5, .string f.f4] 36 (0, 0))).below hb3); have HF3 := Lib.hid (blk_below (blk_new wo (.cells #[.int .i64 f.f0, .int .i64 f.f1, .bool f.f2, .int .i64 f.f3.f0, .int .i64 f.f3.f1, .int .i64 f.f3.f2, .int .i64 f.f3.f3, .int .i64 f.f3.f4, .bool f.f3.f5, .string f.f4] 36 (0, 0))) hb3); have hz5 : wo.heap.size < w3.heap.size := blk_lt HF3.out; obtain ⟨x0, x1, x2, x3, x4, x5, x6, x7, x8, x9⟩ := fdcells HF3.out; obtain ⟨u0, u1, u2, u3, u4, u5, u6, u7, u8, u9⟩ := fdcells HS3.out.2.2.1; clear hd hb3)
            | (go_at_call 26; have _t := tok1; (with_reducible refine (almshouseref08_Newer.calls f.f3.f0 f.f3.f1 f.f3.f2 f.f3.f3 f.f3.f4 f.f3.f5 g0.f3.f0 g0.f3.f1 g0.f3.f2 g0.f3.f3 g0.f3.f4 g0.f3.f5 _ _ HN1.out).mono ?_); rintro e w4 ⟨rfl, hb⟩; have HS4 := Lib.hid (HS3.out.below hb); have HF4 := Lib.hid (blk_below HF3.out hb); have hz14 : wo.heap.size < w4.heap.size := blk_lt HF4.out; obtain ⟨c40, c41, c42, c43, c44, c45, c46, c47, c48, c49⟩ := fdcells HF4.out; obtain ⟨d40, d41, d42, d43, d44, d45, d46, d47, d48, d49⟩ := fdcells HS4.out.2.2.1; clear hb tok1)
            | (go_at_call 26; have _t := tok2; (with_reducible refine (almshouseref08_Newer.calls f.f3.f0 f.f3.f1 f.f3.f2 f.f3.f3 f.f3.f4 f.f3.f5 g0.f3.f0 g0.f3.f1 g0.f3.f2 g0.f3.f3 g0.f3.f4 g0.f3.f5 _ _ HN1.out).mono ?_); rintro e w5 ⟨rfl, hb⟩; have HS5 := Lib.hid (HS4.out.below hb); have HF5 := Lib.hid (blk_below HF4.out hb); have hz15 : wo.heap.size < w5.heap.size := blk_lt HF5.out; obtain ⟨c50, c51, c52, c53, c54, c55, c56, c57, c58, c59⟩ := fdcells HF5.out; obtain ⟨d50, d51, d52, d53, d54, d55, d56, d57, d58, d59⟩ := fdcells HS5.out.2.2.1; clear hb tok2)
            | ((with_reducible refine gate_store (t := 36) (p := 15) (v := .tmp 100) rfl ?_); refine Mp.wp_store_whole _ rfl rfl 36 (.tmp 15) (.tmp 100) rfl w1.heap.size _ _ HS5.out.2.2.1 rfl (.agg #[.int .i64 f.f0, .int .i64 f.f1, .bool f.f2, .int .i64 f.f3.f0, .int .i64 f.f3.f1, .int .i64 f.f3.f2, .int .i64 f.f3.f3, .int .i64 f.f3.f4, .bool f.f3.f5, .string f.f4]) [.int .i64 f.f0, .int .i64 f.f1, .bool f.f2, .int .i64 f.f3.f0, .int .i64 f.f3.f1, .int .i64 f.f3.f2, .int .i64 f.f3.f3, .int .i64 f.f3.f4, .bool f.f3.f5, .string f.f4] rfl rfl sz36 fd_one rfl ?_; intro w9 hf9 hg9 hs9; have HS9 := Lib.hid (HS5.out.store hf9 hg9); clear hf9 hg9 hs9))
           go_roundw
           case rel => exact ⟨k + 1, some f, true, by go_num, rfl, by omega, ⟨rfl⟩, ⟨ES.out⟩, ⟨HS9.out⟩⟩
           case measure => simp [intOf]; omega
         ·have h4e : (f.f0 == g0.f0) = false := beq_eq_false_iff_ne.mpr h4
          rw [ref_new hin hpl (by unfold aheadLt; rw [hfg]; rfl)] at es
          have ES := Lib.hid es
          rw [hfg] at HN1
          clear es hin hpl hfg HN2
          clear h4
          have tok1 : True := trivial
          have tok2 : True := trivial
          go_wp2_with (first
           | (go_at_call 25; refine (almshouseref17_has.calls kh Ag cg go f.f0 _ _ (Kd.C_alloc HGo.out _) hlg HHAS.out).mono ?_; rintro e w3 ⟨rfl, hd⟩; have hb3 := hd.below; have HS3 := Lib.hid ((HS.out.alloc (.cells #[.int .i64 f.f0, .int .i64 f.f1, .bool f.f2, .int .i64 f.f3.f0, .int .i64 f.f3.f1, .int .i64 f.f3.f2, .int .i64 f.f3.f3, .int .i64 f.f3.f4, .bool f.f3.f5, .string f.f4] 36 (0, 0))).below hb3); have HF3 := Lib.hid (blk_below (blk_new wo (.cells #[.int .i64 f.f0, .int .i64 f.f1, .bool f.f2, .int .i64 f.f3.f0, .int .i64 f.f3.f1, .int .i64 f.f3.f2, .int .i64 f.f3.f3, .int .i64 f.f3.f4, .bool f.f3.f5, .string f.f4] 36 (0, 0))) hb3); have hz5 : wo.heap.size < w3.heap.size := blk_lt HF3.out; obtain ⟨x0, x1, x2, x3, x4, x5, x6, x7, x8, x9⟩ := fdcells HF3.out; obtain ⟨u0, u1, u2, u3, u4, u5, u6, u7, u8, u9⟩ := fdcells HS3.out.2.2.1; clear hd hb3)
           | (go_at_call 26; have _t := tok1; (with_reducible refine (almshouseref08_Newer.calls f.f3.f0 f.f3.f1 f.f3.f2 f.f3.f3 f.f3.f4 f.f3.f5 g0.f3.f0 g0.f3.f1 g0.f3.f2 g0.f3.f3 g0.f3.f4 g0.f3.f5 _ _ HN1.out).mono ?_); rintro e w4 ⟨rfl, hb⟩; have HS4 := Lib.hid (HS3.out.below hb); have HF4 := Lib.hid (blk_below HF3.out hb); have hz14 : wo.heap.size < w4.heap.size := blk_lt HF4.out; obtain ⟨c40, c41, c42, c43, c44, c45, c46, c47, c48, c49⟩ := fdcells HF4.out; obtain ⟨d40, d41, d42, d43, d44, d45, d46, d47, d48, d49⟩ := fdcells HS4.out.2.2.1; clear hb tok1)
           | (go_at_call 26; have _t := tok2; (with_reducible refine (almshouseref08_Newer.calls f.f3.f0 f.f3.f1 f.f3.f2 f.f3.f3 f.f3.f4 f.f3.f5 g0.f3.f0 g0.f3.f1 g0.f3.f2 g0.f3.f3 g0.f3.f4 g0.f3.f5 _ _ HN1.out).mono ?_); rintro e w5 ⟨rfl, hb⟩; have HS5 := Lib.hid (HS4.out.below hb); have HF5 := Lib.hid (blk_below HF4.out hb); have hz15 : wo.heap.size < w5.heap.size := blk_lt HF5.out; obtain ⟨c50, c51, c52, c53, c54, c55, c56, c57, c58, c59⟩ := fdcells HF5.out; obtain ⟨d50, d51, d52, d53, d54, d55, d56, d57, d58, d59⟩ := fdcells HS5.out.2.2.1; clear hb tok2)
           | ((with_reducible refine gate_store (t := 36) (p := 15) (v := .tmp 100) rfl ?_); refine Mp.wp_store_whole _ rfl rfl 36 (.tmp 15) (.tmp 100) rfl w1.heap.size _ _ HS5.out.2.2.1 rfl (.agg #[.int .i64 f.f0, .int .i64 f.f1, .bool f.f2, .int .i64 f.f3.f0, .int .i64 f.f3.f1, .int .i64 f.f3.f2, .int .i64 f.f3.f3, .int .i64 f.f3.f4, .bool f.f3.f5, .string f.f4]) [.int .i64 f.f0, .int .i64 f.f1, .bool f.f2, .int .i64 f.f3.f0, .int .i64 f.f3.f1, .int .i64 f.f3.f2, .int .i64 f.f3.f3, .int .i64 f.f3.f4, .bool f.f3.f5, .string f.f4] rfl rfl sz36 fd_one rfl ?_; intro w9 hf9 hg9 hs9; have HS9 := Lib.hid (HS5.out.store hf9 hg9); clear hf9 hg9 hs9))
          go_roundw
          case rel => exact ⟨k + 1, some f, true, by go_num, rfl, by omega, ⟨rfl⟩, ⟨ES.out⟩, ⟨HS9.out⟩⟩
          case measure => simp [intOf]; omega
       | false =>
        cases hgf : newerB g0 f with
        | true =>
         by_cases h3 : f.f0 < g0.f0
         ·rw [ref_old hin hpl (by unfold aheadLt; rw [hfg, hgf]; rfl)] at es
          have ES := Lib.hid es
          rw [hfg] at HN1
          rw [hgf] at HN2
          clear es hin hpl hfg hgf
          skip
          have tok1 : True := trivial
          have tok2 : True := trivial
          have tok3 : True := trivial
          go_wp2_with (first
           | (go_at_call 25; refine (almshouseref17_has.calls kh Ag cg go f.f0 _ _ (Kd.C_alloc HGo.out _) hlg HHAS.out).mono ?_; rintro e w3 ⟨rfl, hd⟩; have hb3 := hd.below; have HS3 := Lib.hid ((HS.out.alloc (.cells #[.int .i64 f.f0, .int .i64 f.f1, .bool f.f2, .int .i64 f.f3.f0, .int .i64 f.f3.f1, .int .i64 f.f3.f2, .int .i64 f.f3.f3, .int .i64 f.f3.f4, .bool f.f3.f5, .string f.f4] 36 (0, 0))).below hb3); have HF3 := Lib.hid (blk_below (blk_new wo (.cells #[.int .i64 f.f0, .int .i64 f.f1, .bool f.f2, .int .i64 f.f3.f0, .int .i64 f.f3.f1, .int .i64 f.f3.f2, .int .i64 f.f3.f3, .int .i64 f.f3.f4, .bool f.f3.f5, .string f.f4] 36 (0, 0))) hb3); have hz5 : wo.heap.size < w3.heap.size := blk_lt HF3.out; obtain ⟨x0, x1, x2, x3, x4, x5, x6, x7, x8, x9⟩ := fdcells HF3.out; obtain ⟨u0, u1, u2, u3, u4, u5, u6, u7, u8, u9⟩ := fdcells HS3.out.2.2.1; clear hd hb3)
           | (go_at_call 26; have _t := tok1; (with_reducible refine (almshouseref08_Newer.calls f.f3.f0 f.f3.f1 f.f3.f2 f.f3.f3 f.f3.f4 f.f3.f5 g0.f3.f0 g0.f3.f1 g0.f3.f2 g0.f3.f3 g0.f3.f4 g0.f3.f5 _ _ HN1.out).mono ?_); rintro e w4 ⟨rfl, hb⟩; have HS4 := Lib.hid (HS3.out.below hb); have HF4 := Lib.hid (blk_below HF3.out hb); have hz14 : wo.heap.size < w4.heap.size := blk_lt HF4.out; obtain ⟨c40, c41, c42, c43, c44, c45, c46, c47, c48, c49⟩ := fdcells HF4.out; obtain ⟨d40, d41, d42, d43, d44, d45, d46, d47, d48, d49⟩ := fdcells HS4.out.2.2.1; clear hb tok1)
           | (go_at_call 26; have _t := tok2; (with_reducible refine (almshouseref08_Newer.calls g0.f3.f0 g0.f3.f1 g0.f3.f2 g0.f3.f3 g0.f3.f4 g0.f3.f5 f.f3.f0 f.f3.f1 f.f3.f2 f.f3.f3 f.f3.f4 f.f3.f5 _ _ HN2.out).mono ?_); rintro e w5 ⟨rfl, hb⟩; have HS5 := Lib.hid (HS4.out.below hb); have HF5 := Lib.hid (blk_below HF4.out hb); have hz15 : wo.heap.size < w5.heap.size := blk_lt HF5.out; obtain ⟨c50, c51, c52, c53, c54, c55, c56, c57, c58, c59⟩ := fdcells HF5.out; obtain ⟨d50, d51, d52, d53, d54, d55, d56, d57, d58, d59⟩ := fdcells HS5.out.2.2.1; clear hb tok2)
           | (go_at_call 26; have _t := tok3; (with_reducible refine (almshouseref08_Newer.calls f.f3.f0 f.f3.f1 f.f3.f2 f.f3.f3 f.f3.f4 f.f3.f5 g0.f3.f0 g0.f3.f1 g0.f3.f2 g0.f3.f3 g0.f3.f4 g0.f3.f5 _ _ HN1.out).mono ?_); rintro e w6 ⟨rfl, hb⟩; have HS6 := Lib.hid (HS5.out.below hb); have HF6 := Lib.hid (blk_below HF5.out hb); have hz16 : wo.heap.size < w6.heap.size := blk_lt HF6.out; obtain ⟨c60, c61, c62, c63, c64, c65, c66, c67, c68, c69⟩ := fdcells HF6.out; obtain ⟨d60, d61, d62, d63, d64, d65, d66, d67, d68, d69⟩ := fdcells HS6.out.2.2.1; clear hb tok3))
          go_roundw
          case rel => exact ⟨k + 1, some g0, true, by go_num, rfl, by omega, ⟨rfl⟩, ⟨ES.out⟩, ⟨HS6.out⟩⟩
          case measure => simp [intOf]; omega
         ·by_cases h4 : f.f0 = g0.f0
          ·by_cases h5 : f.f1 < g0.f1
           ·have h4e : (f.f0 == g0.f0) = true := beq_iff_eq.mpr h4
            rw [ref_old hin hpl (by unfold aheadLt; rw [hfg, hgf]; rfl)] at es
            have ES := Lib.hid es
            rw [hfg] at HN1
            rw [hgf] at HN2
            clear es hin hpl hfg hgf
            clear h4
            have tok1 : True := trivial
            have tok2 : True := trivial
            have tok3 : True := trivial
            go_wp2_with (first
             | (go_at_call 25; refine (almshouseref17_has.calls kh Ag cg go f.f0 _ _ (Kd.C_alloc HGo.out _) hlg HHAS.out).mono ?_; rintro e w3 ⟨rfl, hd⟩; have hb3 := hd.below; have HS3 := Lib.hid ((HS.out.alloc (.cells #[.int .i64 f.f0, .int .i64 f.f1, .bool f.f2, .int .i64 f.f3.f0, .int .i64 f.f3.f1, .int .i64 f.f3.f2, .int .i64 f.f3.f3, .int .i64 f.f3.f4, .bool f.f3.f5, .string f.f4] 36 (0, 0))).below hb3); have HF3 := Lib.hid (blk_below (blk_new wo (.cells #[.int .i64 f.f0, .int .i64 f.f1, .bool f.f2, .int .i64 f.f3.f0, .int .i64 f.f3.f1, .int .i64 f.f3.f2, .int .i64 f.f3.f3, .int .i64 f.f3.f4, .bool f.f3.f5, .string f.f4] 36 (0, 0))) hb3); have hz5 : wo.heap.size < w3.heap.size := blk_lt HF3.out; obtain ⟨x0, x1, x2, x3, x4, x5, x6, x7, x8, x9⟩ := fdcells HF3.out; obtain ⟨u0, u1, u2, u3, u4, u5, u6, u7, u8, u9⟩ := fdcells HS3.out.2.2.1; clear hd hb3)
             | (go_at_call 26; have _t := tok1; (with_reducible refine (almshouseref08_Newer.calls f.f3.f0 f.f3.f1 f.f3.f2 f.f3.f3 f.f3.f4 f.f3.f5 g0.f3.f0 g0.f3.f1 g0.f3.f2 g0.f3.f3 g0.f3.f4 g0.f3.f5 _ _ HN1.out).mono ?_); rintro e w4 ⟨rfl, hb⟩; have HS4 := Lib.hid (HS3.out.below hb); have HF4 := Lib.hid (blk_below HF3.out hb); have hz14 : wo.heap.size < w4.heap.size := blk_lt HF4.out; obtain ⟨c40, c41, c42, c43, c44, c45, c46, c47, c48, c49⟩ := fdcells HF4.out; obtain ⟨d40, d41, d42, d43, d44, d45, d46, d47, d48, d49⟩ := fdcells HS4.out.2.2.1; clear hb tok1)
             | (go_at_call 26; have _t := tok2; (with_reducible refine (almshouseref08_Newer.calls g0.f3.f0 g0.f3.f1 g0.f3.f2 g0.f3.f3 g0.f3.f4 g0.f3.f5 f.f3.f0 f.f3.f1 f.f3.f2 f.f3.f3 f.f3.f4 f.f3.f5 _ _ HN2.out).mono ?_); rintro e w5 ⟨rfl, hb⟩; have HS5 := Lib.hid (HS4.out.below hb); have HF5 := Lib.hid (blk_below HF4.out hb); have hz15 : wo.heap.size < w5.heap.size := blk_lt HF5.out; obtain ⟨c50, c51, c52, c53, c54, c55, c56, c57, c58, c59⟩ := fdcells HF5.out; obtain ⟨d50, d51, d52, d53, d54, d55, d56, d57, d58, d59⟩ := fdcells HS5.out.2.2.1; clear hb tok2)
             | (go_at_call 26; have _t := tok3; (with_reducible refine (almshouseref08_Newer.calls f.f3.f0 f.f3.f1 f.f3.f2 f.f3.f3 f.f3.f4 f.f3.f5 g0.f3.f0 g0.f3.f1 g0.f3.f2 g0.f3.f3 g0.f3.f4 g0.f3.f5 _ _ HN1.out).mono ?_); rintro e w6 ⟨rfl, hb⟩; have HS6 := Lib.hid (HS5.out.below hb); have HF6 := Lib.hid (blk_below HF5.out hb); have hz16 : wo.heap.size < w6.heap.size := blk_lt HF6.out; obtain ⟨c60, c61, c62, c63, c64, c65, c66, c67, c68, c69⟩ := fdcells HF6.out; obtain ⟨d60, d61, d62, d63, d64, d65, d66, d67, d68, d69⟩ := fdcells HS6.out.2.2.1; clear hb tok3))
            go_roundw
            case rel => exact ⟨k + 1, some g0, true, by go_num, rfl, by omega, ⟨rfl⟩, ⟨ES.out⟩, ⟨HS6.out⟩⟩
            case measure => simp [intOf]; omega
           ·have h4e : (f.f0 == g0.f0) = true := beq_iff_eq.mpr h4
            rw [ref_old hin hpl (by unfold aheadLt; rw [hfg, hgf]; rfl)] at es
            have ES := Lib.hid es
            rw [hfg] at HN1
            rw [hgf] at HN2
            clear es hin hpl hfg hgf
            clear h4
            have tok1 : True := trivial
            have tok2 : True := trivial
            have tok3 : True := trivial
            go_wp2_with (first
             | (go_at_call 25; refine (almshouseref17_has.calls kh Ag cg go f.f0 _ _ (Kd.C_alloc HGo.out _) hlg HHAS.out).mono ?_; rintro e w3 ⟨rfl, hd⟩; have hb3 := hd.below; have HS3 := Lib.hid ((HS.out.alloc (.cells #[.int .i64 f.f0, .int .i64 f.f1, .bool f.f2, .int .i64 f.f3.f0, .int .i64 f.f3.f1, .int .i64 f.f3.f2, .int .i64 f.f3.f3, .int .i64 f.f3.f4, .bool f.f3.f5, .string f.f4] 36 (0, 0))).below hb3); have HF3 := Lib.hid (blk_below (blk_new wo (.cells #[.int .i64 f.f0, .int .i64 f.f1, .bool f.f2, .int .i64 f.f3.f0, .int .i64 f.f3.f1, .int .i64 f.f3.f2, .int .i64 f.f3.f3, .int .i64 f.f3.f4, .bool f.f3.f5, .string f.f4] 36 (0, 0))) hb3); have hz5 : wo.heap.size < w3.heap.size := blk_lt HF3.out; obtain ⟨x0, x1, x2, x3, x4, x5, x6, x7, x8, x9⟩ := fdcells HF3.out; obtain ⟨u0, u1, u2, u3, u4, u5, u6, u7, u8, u9⟩ := fdcells HS3.out.2.2.1; clear hd hb3)
             | (go_at_call 26; have _t := tok1; (with_reducible refine (almshouseref08_Newer.calls f.f3.f0 f.f3.f1 f.f3.f2 f.f3.f3 f.f3.f4 f.f3.f5 g0.f3.f0 g0.f3.f1 g0.f3.f2 g0.f3.f3 g0.f3.f4 g0.f3.f5 _ _ HN1.out).mono ?_); rintro e w4 ⟨rfl, hb⟩; have HS4 := Lib.hid (HS3.out.below hb); have HF4 := Lib.hid (blk_below HF3.out hb); have hz14 : wo.heap.size < w4.heap.size := blk_lt HF4.out; obtain ⟨c40, c41, c42, c43, c44, c45, c46, c47, c48, c49⟩ := fdcells HF4.out; obtain ⟨d40, d41, d42, d43, d44, d45, d46, d47, d48, d49⟩ := fdcells HS4.out.2.2.1; clear hb tok1)
             | (go_at_call 26; have _t := tok2; (with_reducible refine (almshouseref08_Newer.calls g0.f3.f0 g0.f3.f1 g0.f3.f2 g0.f3.f3 g0.f3.f4 g0.f3.f5 f.f3.f0 f.f3.f1 f.f3.f2 f.f3.f3 f.f3.f4 f.f3.f5 _ _ HN2.out).mono ?_); rintro e w5 ⟨rfl, hb⟩; have HS5 := Lib.hid (HS4.out.below hb); have HF5 := Lib.hid (blk_below HF4.out hb); have hz15 : wo.heap.size < w5.heap.size := blk_lt HF5.out; obtain ⟨c50, c51, c52, c53, c54, c55, c56, c57, c58, c59⟩ := fdcells HF5.out; obtain ⟨d50, d51, d52, d53, d54, d55, d56, d57, d58, d59⟩ := fdcells HS5.out.2.2.1; clear hb tok2)
             | (go_at_call 26; have _t := tok3; (with_reducible refine (almshouseref08_Newer.calls f.f3.f0 f.f3.f1 f.f3.f2 f.f3.f3 f.f3.f4 f.f3.f5 g0.f3.f0 g0.f3.f1 g0.f3.f2 g0.f3.f3 g0.f3.f4 g0.f3.f5 _ _ HN1.out).mono ?_); rintro e w6 ⟨rfl, hb⟩; have HS6 := Lib.hid (HS5.out.below hb); have HF6 := Lib.hid (blk_below HF5.out hb); have hz16 : wo.heap.size < w6.heap.size := blk_lt HF6.out; obtain ⟨c60, c61, c62, c63, c64, c65, c66, c67, c68, c69⟩ := fdcells HF6.out; obtain ⟨d60, d61, d62, d63, d64, d65, d66, d67, d68, d69⟩ := fdcells HS6.out.2.2.1; clear hb tok3))
            go_roundw
            case rel => exact ⟨k + 1, some g0, true, by go_num, rfl, by omega, ⟨rfl⟩, ⟨ES.out⟩, ⟨HS6.out⟩⟩
            case measure => simp [intOf]; omega
          ·have h4e : (f.f0 == g0.f0) = false := beq_eq_false_iff_ne.mpr h4
           rw [ref_old hin hpl (by unfold aheadLt; rw [hfg, hgf]; rfl)] at es
           have ES := Lib.hid es
           rw [hfg] at HN1
           rw [hgf] at HN2
           clear es hin hpl hfg hgf
           clear h4
           have tok1 : True := trivial
           have tok2 : True := trivial
           have tok3 : True := trivial
           go_wp2_with (first
            | (go_at_call 25; refine (almshouseref17_has.calls kh Ag cg go f.f0 _ _ (Kd.C_alloc HGo.out _) hlg HHAS.out).mono ?_; rintro e w3 ⟨rfl, hd⟩; have hb3 := hd.below; have HS3 := Lib.hid ((HS.out.alloc (.cells #[.int .i64 f.f0, .int .i64 f.f1, .bool f.f2, .int .i64 f.f3.f0, .int .i64 f.f3.f1, .int .i64 f.f3.f2, .int .i64 f.f3.f3, .int .i64 f.f3.f4, .bool f.f3.f5, .string f.f4] 36 (0, 0))).below hb3); have HF3 := Lib.hid (blk_below (blk_new wo (.cells #[.int .i64 f.f0, .int .i64 f.f1, .bool f.f2, .int .i64 f.f3.f0, .int .i64 f.f3.f1, .int .i64 f.f3.f2, .int .i64 f.f3.f3, .int .i64 f.f3.f4, .bool f.f3.f5, .string f.f4] 36 (0, 0))) hb3); have hz5 : wo.heap.size < w3.heap.size := blk_lt HF3.out; obtain ⟨x0, x1, x2, x3, x4, x5, x6, x7, x8, x9⟩ := fdcells HF3.out; obtain ⟨u0, u1, u2, u3, u4, u5, u6, u7, u8, u9⟩ := fdcells HS3.out.2.2.1; clear hd hb3)
            | (go_at_call 26; have _t := tok1; (with_reducible refine (almshouseref08_Newer.calls f.f3.f0 f.f3.f1 f.f3.f2 f.f3.f3 f.f3.f4 f.f3.f5 g0.f3.f0 g0.f3.f1 g0.f3.f2 g0.f3.f3 g0.f3.f4 g0.f3.f5 _ _ HN1.out).mono ?_); rintro e w4 ⟨rfl, hb⟩; have HS4 := Lib.hid (HS3.out.below hb); have HF4 := Lib.hid (blk_below HF3.out hb); have hz14 : wo.heap.size < w4.heap.size := blk_lt HF4.out; obtain ⟨c40, c41, c42, c43, c44, c45, c46, c47, c48, c49⟩ := fdcells HF4.out; obtain ⟨d40, d41, d42, d43, d44, d45, d46, d47, d48, d49⟩ := fdcells HS4.out.2.2.1; clear hb tok1)
            | (go_at_call 26; have _t := tok2; (with_reducible refine (almshouseref08_Newer.calls g0.f3.f0 g0.f3.f1 g0.f3.f2 g0.f3.f3 g0.f3.f4 g0.f3.f5 f.f3.f0 f.f3.f1 f.f3.f2 f.f3.f3 f.f3.f4 f.f3.f5 _ _ HN2.out).mono ?_); rintro e w5 ⟨rfl, hb⟩; have HS5 := Lib.hid (HS4.out.below hb); have HF5 := Lib.hid (blk_below HF4.out hb); have hz15 : wo.heap.size < w5.heap.size := blk_lt HF5.out; obtain ⟨c50, c51, c52, c53, c54, c55, c56, c57, c58, c59⟩ := fdcells HF5.out; obtain ⟨d50, d51, d52, d53, d54, d55, d56, d57, d58, d59⟩ := fdcells HS5.out.2.2.1; clear hb tok2)
            | (go_at_call 26; have _t := tok3; (with_reducible refine (almshouseref08_Newer.calls f.f3.f0 f.f3.f1 f.f3.f2 f.f3.f3 f.f3.f4 f.f3.f5 g0.f3.f0 g0.f3.f1 g0.f3.f2 g0.f3.f3 g0.f3.f4 g0.f3.f5 _ _ HN1.out).mono ?_); rintro e w6 ⟨rfl, hb⟩; have HS6 := Lib.hid (HS5.out.below hb); have HF6 := Lib.hid (blk_below HF5.out hb); have hz16 : wo.heap.size < w6.heap.size := blk_lt HF6.out; obtain ⟨c60, c61, c62, c63, c64, c65, c66, c67, c68, c69⟩ := fdcells HF6.out; obtain ⟨d60, d61, d62, d63, d64, d65, d66, d67, d68, d69⟩ := fdcells HS6.out.2.2.1; clear hb tok3))
           go_roundw
           case rel => exact ⟨k + 1, some g0, true, by go_num, rfl, by omega, ⟨rfl⟩, ⟨ES.out⟩, ⟨HS6.out⟩⟩
           case measure => simp [intOf]; omega
        | false =>
         by_cases h3 : f.f0 < g0.f0
         ·rw [ref_new hin hpl (by unfold aheadLt; rw [hfg, hgf]; simp [*])] at es
          have ES := Lib.hid es
          rw [hfg] at HN1
          rw [hgf] at HN2
          clear es hin hpl hfg hgf
          skip
          have tok1 : True := trivial
          have tok2 : True := trivial
          have tok3 : True := trivial
          go_wp2_with (first
           | (go_at_call 25; refine (almshouseref17_has.calls kh Ag cg go f.f0 _ _ (Kd.C_alloc HGo.out _) hlg HHAS.out).mono ?_; rintro e w3 ⟨rfl, hd⟩; have hb3 := hd.below; have HS3 := Lib.hid ((HS.out.alloc (.cells #[.int .i64 f.f0, .int .i64 f.f1, .bool f.f2, .int .i64 f.f3.f0, .int .i64 f.f3.f1, .int .i64 f.f3.f2, .int .i64 f.f3.f3, .int .i64 f.f3.f4, .bool f.f3.f5, .string f.f4] 36 (0, 0))).below hb3); have HF3 := Lib.hid (blk_below (blk_new wo (.cells #[.int .i64 f.f0, .int .i64 f.f1, .bool f.f2, .int .i64 f.f3.f0, .int .i64 f.f3.f1, .int .i64 f.f3.f2, .int .i64 f.f3.f3, .int .i64 f.f3.f4, .bool f.f3.f5, .string f.f4] 36 (0, 0))) hb3); have hz5 : wo.heap.size < w3.heap.size := blk_lt HF3.out; obtain ⟨x0, x1, x2, x3, x4, x5, x6, x7, x8, x9⟩ := fdcells HF3.out; obtain ⟨u0, u1, u2, u3, u4, u5, u6, u7, u8, u9⟩ := fdcells HS3.out.2.2.1; clear hd hb3)
           | (go_at_call 26; have _t := tok1; (with_reducible refine (almshouseref08_Newer.calls f.f3.f0 f.f3.f1 f.f3.f2 f.f3.f3 f.f3.f4 f.f3.f5 g0.f3.f0 g0.f3.f1 g0.f3.f2 g0.f3.f3 g0.f3.f4 g0.f3.f5 _ _ HN1.out).mono ?_); rintro e w4 ⟨rfl, hb⟩; have HS4 := Lib.hid (HS3.out.below hb); have HF4 := Lib.hid (blk_below HF3.out hb); have hz14 : wo.heap.size < w4.heap.size := blk_lt HF4.out; obtain ⟨c40, c41, c42, c43, c44, c45, c46, c47, c48, c49⟩ := fdcells HF4.out; obtain ⟨d40, d41, d42, d43, d44, d45, d46, d47, d48, d49⟩ := fdcells HS4.out.2.2.1; clear hb tok1)
           | (go_at_call 26; have _t := tok2; (with_reducible refine (almshouseref08_Newer.calls g0.f3.f0 g0.f3.f1 g0.f3.f2 g0.f3.f3 g0.f3.f4 g0.f3.f5 f.f3.f0 f.f3.f1 f.f3.f2 f.f3.f3 f.f3.f4 f.f3.f5 _ _ HN2.out).mono ?_); rintro e w5 ⟨rfl, hb⟩; have HS5 := Lib.hid (HS4.out.below hb); have HF5 := Lib.hid (blk_below HF4.out hb); have hz15 : wo.heap.size < w5.heap.size := blk_lt HF5.out; obtain ⟨c50, c51, c52, c53, c54, c55, c56, c57, c58, c59⟩ := fdcells HF5.out; obtain ⟨d50, d51, d52, d53, d54, d55, d56, d57, d58, d59⟩ := fdcells HS5.out.2.2.1; clear hb tok2)
           | (go_at_call 26; have _t := tok3; (with_reducible refine (almshouseref08_Newer.calls f.f3.f0 f.f3.f1 f.f3.f2 f.f3.f3 f.f3.f4 f.f3.f5 g0.f3.f0 g0.f3.f1 g0.f3.f2 g0.f3.f3 g0.f3.f4 g0.f3.f5 _ _ HN1.out).mono ?_); rintro e w6 ⟨rfl, hb⟩; have HS6 := Lib.hid (HS5.out.below hb); have HF6 := Lib.hid (blk_below HF5.out hb); have hz16 : wo.heap.size < w6.heap.size := blk_lt HF6.out; obtain ⟨c60, c61, c62, c63, c64, c65, c66, c67, c68, c69⟩ := fdcells HF6.out; obtain ⟨d60, d61, d62, d63, d64, d65, d66, d67, d68, d69⟩ := fdcells HS6.out.2.2.1; clear hb tok3)
           | ((with_reducible refine gate_store (t := 36) (p := 15) (v := .tmp 100) rfl ?_); refine Mp.wp_store_whole _ rfl rfl 36 (.tmp 15) (.tmp 100) rfl w1.heap.size _ _ HS6.out.2.2.1 rfl (.agg #[.int .i64 f.f0, .int .i64 f.f1, .bool f.f2, .int .i64 f.f3.f0, .int .i64 f.f3.f1, .int .i64 f.f3.f2, .int .i64 f.f3.f3, .int .i64 f.f3.f4, .bool f.f3.f5, .string f.f4]) [.int .i64 f.f0, .int .i64 f.f1, .bool f.f2, .int .i64 f.f3.f0, .int .i64 f.f3.f1, .int .i64 f.f3.f2, .int .i64 f.f3.f3, .int .i64 f.f3.f4, .bool f.f3.f5, .string f.f4] rfl rfl sz36 fd_one rfl ?_; intro w9 hf9 hg9 hs9; have HS9 := Lib.hid (HS6.out.store hf9 hg9); clear hf9 hg9 hs9))
          go_roundw
          case rel => exact ⟨k + 1, some f, true, by go_num, rfl, by omega, ⟨rfl⟩, ⟨ES.out⟩, ⟨HS9.out⟩⟩
          case measure => simp [intOf]; omega
         ·by_cases h4 : f.f0 = g0.f0
          ·by_cases h5 : f.f1 < g0.f1
           ·have h4e : (f.f0 == g0.f0) = true := beq_iff_eq.mpr h4
            rw [ref_new hin hpl (by unfold aheadLt; rw [hfg, hgf]; simp [*])] at es
            have ES := Lib.hid es
            rw [hfg] at HN1
            rw [hgf] at HN2
            clear es hin hpl hfg hgf
            clear h4
            have tok1 : True := trivial
            have tok2 : True := trivial
            have tok3 : True := trivial
            go_wp2_with (first
             | (go_at_call 25; refine (almshouseref17_has.calls kh Ag cg go f.f0 _ _ (Kd.C_alloc HGo.out _) hlg HHAS.out).mono ?_; rintro e w3 ⟨rfl, hd⟩; have hb3 := hd.below; have HS3 := Lib.hid ((HS.out.alloc (.cells #[.int .i64 f.f0, .int .i64 f.f1, .bool f.f2, .int .i64 f.f3.f0, .int .i64 f.f3.f1, .int .i64 f.f3.f2, .int .i64 f.f3.f3, .int .i64 f.f3.f4, .bool f.f3.f5, .string f.f4] 36 (0, 0))).below hb3); have HF3 := Lib.hid (blk_below (blk_new wo (.cells #[.int .i64 f.f0, .int .i64 f.f1, .bool f.f2, .int .i64 f.f3.f0, .int .i64 f.f3.f1, .int .i64 f.f3.f2, .int .i64 f.f3.f3, .int .i64 f.f3.f4, .bool f.f3.f5, .string f.f4] 36 (0, 0))) hb3); have hz5 : wo.heap.size < w3.heap.size := blk_lt HF3.out; obtain ⟨x0, x1, x2, x3, x4, x5, x6, x7, x8, x9⟩ := fdcells HF3.out; obtain ⟨u0, u1, u2, u3, u4, u5, u6, u7, u8, u9⟩ := fdcells HS3.out.2.2.1; clear hd hb3)
             | (go_at_call 26; have _t := tok1; (with_reducible refine (almshouseref08_Newer.calls f.f3.f0 f.f3.f1 f.f3.f2 f.f3.f3 f.f3.f4 f.f3.f5 g0.f3.f0 g0.f3.f1 g0.f3.f2 g0.f3.f3 g0.f3.f4 g0.f3.f5 _ _ HN1.out).mono ?_); rintro e w4 ⟨rfl, hb⟩; have HS4 := Lib.hid (HS3.out.below hb); have HF4 := Lib.hid (blk_below HF3.out hb); have hz14 : wo.heap.size < w4.heap.size := blk_lt HF4.out; obtain ⟨c40, c41, c42, c43, c44, c45, c46, c47, c48, c49⟩ := fdcells HF4.out; obtain ⟨d40, d41, d42, d43, d44, d45, d46, d47, d48, d49⟩ := fdcells HS4.out.2.2.1; clear hb tok1)
             | (go_at_call 26; have _t := tok2; (with_reducible refine (almshouseref08_Newer.calls g0.f3.f0 g0.f3.f1 g0.f3.f2 g0.f3.f3 g0.f3.f4 g0.f3.f5 f.f3.f0 f.f3.f1 f.f3.f2 f.f3.f3 f.f3.f4 f.f3.f5 _ _ HN2.out).mono ?_); rintro e w5 ⟨rfl, hb⟩; have HS5 := Lib.hid (HS4.out.below hb); have HF5 := Lib.hid (blk_below HF4.out hb); have hz15 : wo.heap.size < w5.heap.size := blk_lt HF5.out; obtain ⟨c50, c51, c52, c53, c54, c55, c56, c57, c58, c59⟩ := fdcells HF5.out; obtain ⟨d50, d51, d52, d53, d54, d55, d56, d57, d58, d59⟩ := fdcells HS5.out.2.2.1; clear hb tok2)
             | (go_at_call 26; have _t := tok3; (with_reducible refine (almshouseref08_Newer.calls f.f3.f0 f.f3.f1 f.f3.f2 f.f3.f3 f.f3.f4 f.f3.f5 g0.f3.f0 g0.f3.f1 g0.f3.f2 g0.f3.f3 g0.f3.f4 g0.f3.f5 _ _ HN1.out).mono ?_); rintro e w6 ⟨rfl, hb⟩; have HS6 := Lib.hid (HS5.out.below hb); have HF6 := Lib.hid (blk_below HF5.out hb); have hz16 : wo.heap.size < w6.heap.size := blk_lt HF6.out; obtain ⟨c60, c61, c62, c63, c64, c65, c66, c67, c68, c69⟩ := fdcells HF6.out; obtain ⟨d60, d61, d62, d63, d64, d65, d66, d67, d68, d69⟩ := fdcells HS6.out.2.2.1; clear hb tok3)
             | ((with_reducible refine gate_store (t := 36) (p := 15) (v := .tmp 100) rfl ?_); refine Mp.wp_store_whole _ rfl rfl 36 (.tmp 15) (.tmp 100) rfl w1.heap.size _ _ HS6.out.2.2.1 rfl (.agg #[.int .i64 f.f0, .int .i64 f.f1, .bool f.f2, .int .i64 f.f3.f0, .int .i64 f.f3.f1, .int .i64 f.f3.f2, .int .i64 f.f3.f3, .int .i64 f.f3.f4, .bool f.f3.f5, .string f.f4]) [.int .i64 f.f0, .int .i64 f.f1, .bool f.f2, .int .i64 f.f3.f0, .int .i64 f.f3.f1, .int .i64 f.f3.f2, .int .i64 f.f3.f3, .int .i64 f.f3.f4, .bool f.f3.f5, .string f.f4] rfl rfl sz36 fd_one rfl ?_; intro w9 hf9 hg9 hs9; have HS9 := Lib.hid (HS6.out.store hf9 hg9); clear hf9 hg9 hs9))
            go_roundw
            case rel => exact ⟨k + 1, some f, true, by go_num, rfl, by omega, ⟨rfl⟩, ⟨ES.out⟩, ⟨HS9.out⟩⟩
            case measure => simp [intOf]; omega
           ·have h4e : (f.f0 == g0.f0) = true := beq_iff_eq.mpr h4
            rw [ref_old hin hpl (by unfold aheadLt; rw [hfg, hgf]; simp [*])] at es
            have ES := Lib.hid es
            rw [hfg] at HN1
            rw [hgf] at HN2
            clear es hin hpl hfg hgf
            clear h4
            have tok1 : True := trivial
            have tok2 : True := trivial
            have tok3 : True := trivial
            go_wp2_with (first
             | (go_at_call 25; refine (almshouseref17_has.calls kh Ag cg go f.f0 _ _ (Kd.C_alloc HGo.out _) hlg HHAS.out).mono ?_; rintro e w3 ⟨rfl, hd⟩; have hb3 := hd.below; have HS3 := Lib.hid ((HS.out.alloc (.cells #[.int .i64 f.f0, .int .i64 f.f1, .bool f.f2, .int .i64 f.f3.f0, .int .i64 f.f3.f1, .int .i64 f.f3.f2, .int .i64 f.f3.f3, .int .i64 f.f3.f4, .bool f.f3.f5, .string f.f4] 36 (0, 0))).below hb3); have HF3 := Lib.hid (blk_below (blk_new wo (.cells #[.int .i64 f.f0, .int .i64 f.f1, .bool f.f2, .int .i64 f.f3.f0, .int .i64 f.f3.f1, .int .i64 f.f3.f2, .int .i64 f.f3.f3, .int .i64 f.f3.f4, .bool f.f3.f5, .string f.f4] 36 (0, 0))) hb3); have hz5 : wo.heap.size < w3.heap.size := blk_lt HF3.out; obtain ⟨x0, x1, x2, x3, x4, x5, x6, x7, x8, x9⟩ := fdcells HF3.out; obtain ⟨u0, u1, u2, u3, u4, u5, u6, u7, u8, u9⟩ := fdcells HS3.out.2.2.1; clear hd hb3)
             | (go_at_call 26; have _t := tok1; (with_reducible refine (almshouseref08_Newer.calls f.f3.f0 f.f3.f1 f.f3.f2 f.f3.f3 f.f3.f4 f.f3.f5 g0.f3.f0 g0.f3.f1 g0.f3.f2 g0.f3.f3 g0.f3.f4 g0.f3.f5 _ _ HN1.out).mono ?_); rintro e w4 ⟨rfl, hb⟩; have HS4 := Lib.hid (HS3.out.below hb); have HF4 := Lib.hid (blk_below HF3.out hb); have hz14 : wo.heap.size < w4.heap.size := blk_lt HF4.out; obtain ⟨c40, c41, c42, c43, c44, c45, c46, c47, c48, c49⟩ := fdcells HF4.out; obtain ⟨d40, d41, d42, d43, d44, d45, d46, d47, d48, d49⟩ := fdcells HS4.out.2.2.1; clear hb tok1)
             | (go_at_call 26; have _t := tok2; (with_reducible refine (almshouseref08_Newer.calls g0.f3.f0 g0.f3.f1 g0.f3.f2 g0.f3.f3 g0.f3.f4 g0.f3.f5 f.f3.f0 f.f3.f1 f.f3.f2 f.f3.f3 f.f3.f4 f.f3.f5 _ _ HN2.out).mono ?_); rintro e w5 ⟨rfl, hb⟩; have HS5 := Lib.hid (HS4.out.below hb); have HF5 := Lib.hid (blk_below HF4.out hb); have hz15 : wo.heap.size < w5.heap.size := blk_lt HF5.out; obtain ⟨c50, c51, c52, c53, c54, c55, c56, c57, c58, c59⟩ := fdcells HF5.out; obtain ⟨d50, d51, d52, d53, d54, d55, d56, d57, d58, d59⟩ := fdcells HS5.out.2.2.1; clear hb tok2)
             | (go_at_call 26; have _t := tok3; (with_reducible refine (almshouseref08_Newer.calls f.f3.f0 f.f3.f1 f.f3.f2 f.f3.f3 f.f3.f4 f.f3.f5 g0.f3.f0 g0.f3.f1 g0.f3.f2 g0.f3.f3 g0.f3.f4 g0.f3.f5 _ _ HN1.out).mono ?_); rintro e w6 ⟨rfl, hb⟩; have HS6 := Lib.hid (HS5.out.below hb); have HF6 := Lib.hid (blk_below HF5.out hb); have hz16 : wo.heap.size < w6.heap.size := blk_lt HF6.out; obtain ⟨c60, c61, c62, c63, c64, c65, c66, c67, c68, c69⟩ := fdcells HF6.out; obtain ⟨d60, d61, d62, d63, d64, d65, d66, d67, d68, d69⟩ := fdcells HS6.out.2.2.1; clear hb tok3))
            go_roundw
            case rel => exact ⟨k + 1, some g0, true, by go_num, rfl, by omega, ⟨rfl⟩, ⟨ES.out⟩, ⟨HS6.out⟩⟩
            case measure => simp [intOf]; omega
          ·have h4e : (f.f0 == g0.f0) = false := beq_eq_false_iff_ne.mpr h4
           rw [ref_old hin hpl (by unfold aheadLt; rw [hfg, hgf]; simp [*])] at es
           have ES := Lib.hid es
           rw [hfg] at HN1
           rw [hgf] at HN2
           clear es hin hpl hfg hgf
           clear h4
           have tok1 : True := trivial
           have tok2 : True := trivial
           have tok3 : True := trivial
           go_wp2_with (first
            | (go_at_call 25; refine (almshouseref17_has.calls kh Ag cg go f.f0 _ _ (Kd.C_alloc HGo.out _) hlg HHAS.out).mono ?_; rintro e w3 ⟨rfl, hd⟩; have hb3 := hd.below; have HS3 := Lib.hid ((HS.out.alloc (.cells #[.int .i64 f.f0, .int .i64 f.f1, .bool f.f2, .int .i64 f.f3.f0, .int .i64 f.f3.f1, .int .i64 f.f3.f2, .int .i64 f.f3.f3, .int .i64 f.f3.f4, .bool f.f3.f5, .string f.f4] 36 (0, 0))).below hb3); have HF3 := Lib.hid (blk_below (blk_new wo (.cells #[.int .i64 f.f0, .int .i64 f.f1, .bool f.f2, .int .i64 f.f3.f0, .int .i64 f.f3.f1, .int .i64 f.f3.f2, .int .i64 f.f3.f3, .int .i64 f.f3.f4, .bool f.f3.f5, .string f.f4] 36 (0, 0))) hb3); have hz5 : wo.heap.size < w3.heap.size := blk_lt HF3.out; obtain ⟨x0, x1, x2, x3, x4, x5, x6, x7, x8, x9⟩ := fdcells HF3.out; obtain ⟨u0, u1, u2, u3, u4, u5, u6, u7, u8, u9⟩ := fdcells HS3.out.2.2.1; clear hd hb3)
            | (go_at_call 26; have _t := tok1; (with_reducible refine (almshouseref08_Newer.calls f.f3.f0 f.f3.f1 f.f3.f2 f.f3.f3 f.f3.f4 f.f3.f5 g0.f3.f0 g0.f3.f1 g0.f3.f2 g0.f3.f3 g0.f3.f4 g0.f3.f5 _ _ HN1.out).mono ?_); rintro e w4 ⟨rfl, hb⟩; have HS4 := Lib.hid (HS3.out.below hb); have HF4 := Lib.hid (blk_below HF3.out hb); have hz14 : wo.heap.size < w4.heap.size := blk_lt HF4.out; obtain ⟨c40, c41, c42, c43, c44, c45, c46, c47, c48, c49⟩ := fdcells HF4.out; obtain ⟨d40, d41, d42, d43, d44, d45, d46, d47, d48, d49⟩ := fdcells HS4.out.2.2.1; clear hb tok1)
            | (go_at_call 26; have _t := tok2; (with_reducible refine (almshouseref08_Newer.calls g0.f3.f0 g0.f3.f1 g0.f3.f2 g0.f3.f3 g0.f3.f4 g0.f3.f5 f.f3.f0 f.f3.f1 f.f3.f2 f.f3.f3 f.f3.f4 f.f3.f5 _ _ HN2.out).mono ?_); rintro e w5 ⟨rfl, hb⟩; have HS5 := Lib.hid (HS4.out.below hb); have HF5 := Lib.hid (blk_below HF4.out hb); have hz15 : wo.heap.size < w5.heap.size := blk_lt HF5.out; obtain ⟨c50, c51, c52, c53, c54, c55, c56, c57, c58, c59⟩ := fdcells HF5.out; obtain ⟨d50, d51, d52, d53, d54, d55, d56, d57, d58, d59⟩ := fdcells HS5.out.2.2.1; clear hb tok2)
            | (go_at_call 26; have _t := tok3; (with_reducible refine (almshouseref08_Newer.calls f.f3.f0 f.f3.f1 f.f3.f2 f.f3.f3 f.f3.f4 f.f3.f5 g0.f3.f0 g0.f3.f1 g0.f3.f2 g0.f3.f3 g0.f3.f4 g0.f3.f5 _ _ HN1.out).mono ?_); rintro e w6 ⟨rfl, hb⟩; have HS6 := Lib.hid (HS5.out.below hb); have HF6 := Lib.hid (blk_below HF5.out hb); have hz16 : wo.heap.size < w6.heap.size := blk_lt HF6.out; obtain ⟨c60, c61, c62, c63, c64, c65, c66, c67, c68, c69⟩ := fdcells HF6.out; obtain ⟨d60, d61, d62, d63, d64, d65, d66, d67, d68, d69⟩ := fdcells HS6.out.2.2.1; clear hb tok3))
           go_roundw
           case rel => exact ⟨k + 1, some g0, true, by go_num, rfl, by omega, ⟨rfl⟩, ⟨ES.out⟩, ⟨HS6.out⟩⟩
           case measure => simp [intOf]; omega
     ·have hpl1 : (f.f3.f2 != a5) = true := bne_iff_ne.mpr hpl
      rw [ref_else hpl] at es
      have ES := Lib.hid es
      clear es hin hpl
      go_wp2_with (go_at_call 25; refine (almshouseref17_has.calls kh Ag cg go f.f0 _ _ (Kd.C_alloc HGo.out _) hlg HHAS.out).mono ?_; rintro e w3 ⟨rfl, hd⟩; have hb3 := hd.below; have HS3 := Lib.hid ((HS.out.alloc (.cells #[.int .i64 f.f0, .int .i64 f.f1, .bool f.f2, .int .i64 f.f3.f0, .int .i64 f.f3.f1, .int .i64 f.f3.f2, .int .i64 f.f3.f3, .int .i64 f.f3.f4, .bool f.f3.f5, .string f.f4] 36 (0, 0))).below hb3); have HF3 := Lib.hid (blk_below (blk_new wo (.cells #[.int .i64 f.f0, .int .i64 f.f1, .bool f.f2, .int .i64 f.f3.f0, .int .i64 f.f3.f1, .int .i64 f.f3.f2, .int .i64 f.f3.f3, .int .i64 f.f3.f4, .bool f.f3.f5, .string f.f4] 36 (0, 0))) hb3); have hz5 : wo.heap.size < w3.heap.size := blk_lt HF3.out; obtain ⟨x0, x1, x2, x3, x4, x5, x6, x7, x8, x9⟩ := fdcells HF3.out; obtain ⟨u0, u1, u2, u3, u4, u5, u6, u7, u8, u9⟩ := fdcells HS3.out.2.2.1; clear hd hb3)
      go_roundw
      case rel => exact ⟨k + 1, best, sB, by go_num, rfl, by omega, HSB, ⟨ES.out⟩, ⟨by rw [HGG.out]; exact HS3.out⟩⟩
      case measure => simp [intOf]; omega
   ·have hltz : ¬ (k : Int) < (cl.length : Int) := by omega
    have e : k = cl.length := by omega
    subst e
    have HE2 := Lib.hid (show cl.foldl (refStep a5 go) none = best by rw [← HE.out, List.take_length])
    obtain ⟨u0, u1, u2, u3, u4, u5, u6, u7, u8, u9⟩ := fdcells HS.out.2.2.1
    have HZR := Lib.hid HS.out.2.1
    obtain ⟨z0, z1, z2, z3, z4, z5, z6, z7, z8, z9⟩ := zdcells HZR.out
    go_wp2_with ((with_reducible refine gate_store (t := 36) (p := 12) (v := .tmp 102) rfl ?_); refine Mp.wp_store_whole _ rfl rfl 36 (.tmp 12) (.tmp 102) rfl w.heap.size _ _ HS.out.2.1 rfl (.agg #[.int .i64 g.f0, .int .i64 g.f1, .bool g.f2, .int .i64 g.f3.f0, .int .i64 g.f3.f1, .int .i64 g.f3.f2, .int .i64 g.f3.f3, .int .i64 g.f3.f4, .bool g.f3.f5, .string g.f4]) [.int .i64 g.f0, .int .i64 g.f1, .bool g.f2, .int .i64 g.f3.f0, .int .i64 g.f3.f1, .int .i64 g.f3.f2, .int .i64 g.f3.f3, .int .i64 g.f3.f4, .bool g.f3.f5, .string g.f4] rfl rfl sz36 fd_one rfl ?_; intro w9 hf9 hg9 hs9; have HF9 := Lib.hid hf9; have HB9 := Lib.hid (HS.out.1.grown hg9 HS.out.1.size (fun k hk => by cases hk; exact Nat.le_refl _)); clear hf9 hg9 hs9)
    rw [HE2.out, HGG.out, ← HSB.out]
    refine bodyPost_ret (results_ct rfl _ _ w.heap.size 36 #[.int .i64 g.f0, .int .i64 g.f1, .bool g.f2, .int .i64 g.f3.f0, .int .i64 g.f3.f1, .int .i64 g.f3.f2, .int .i64 g.f3.f3, .int .i64 g.f3.f4, .bool g.f3.f5, .string g.f4] (0, 0) _ rfl HF9.out hu2 rfl (by kernel_rfl)) rfl ?_
    exact ⟨rfl, HB9.out⟩
 ·rw [if_neg hl] at h
  cases h
end Go.Proofs.Ytdmbibjgiehboaa.X
