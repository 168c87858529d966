-- Cut by a program of this session (wip/pr/pack.py) to what one claim needs.
import Derived.Test.YtdmbibjgiehboaaCHeal
import Derived.Test.YtdmbibjgiehboaaCXMp
namespace Go.Proofs.Ytdmbibjgiehboaa.X
open Go.RowKit Go.Shelf Go.Lib Go.Proofs.YtdmbibjgiehboaaW.PrintWords Go.Proofs.YtdmbibjgiehboaaW.PrintLast Go.Proofs.YtdmbibjgiehboaaW.PrintMore Go.Proofs.Ytdmbibjgiehboaa.P Go.Proofs.Ytdmbibjgiehboaa.Hl Go.Proofs.Ytdmbibjgiehboaa.Gen
set_option linter.unusedVariables false
set_option linter.unusedSimpArgs false
def refStep (place : Int) (gone : List Int) (best : Option Fd) (f : Fd) : Option Fd :=
 if decide (f.f0 ∈ gone) || !decide (f.f3.f2 = place) then best else match best with | none => some f | some g => if aheadLt f g then some f else some g
def refBest (l : List Fd) (a1 a2 a3 a4 place : Int) : Option Fd := (countsL a1 a2 a3 a4 l).foldl (refStep place (goneOf l a1 a2 a3 a4)) none
theorem ref_gone {place : Int} {gone : List Int} {best : Option Fd} {f : Fd} (h : decide (f.f0 ∈ gone) = true) : refStep place gone best f = best := by unfold refStep; rw [h, Bool.true_or, if_pos rfl]
theorem ref_else {place : Int} {gone : List Int} {best : Option Fd} {f : Fd} (h : ¬ f.f3.f2 = place) : refStep place gone best f = best := by unfold refStep; rw [decide_eq_false h, Bool.not_false, Bool.or_true, if_pos rfl]
theorem ref_none {place : Int} {gone : List Int} {f : Fd} (h : decide (f.f0 ∈ gone) = false) (h2 : f.f3.f2 = place) : refStep place gone none f = some f := by unfold refStep; rw [h, decide_eq_true h2]; rfl
theorem ref_new {place : Int} {gone : List Int} {f g : Fd} (h : decide (f.f0 ∈ gone) = false) (h2 : f.f3.f2 = place) (h3 : aheadLt f g = true) : refStep place gone (some g) f = some f := by unfold refStep; rw [h, decide_eq_true h2]; simp [h3]
theorem ref_old {place : Int} {gone : List Int} {f g : Fd} (h : decide (f.f0 ∈ gone) = false) (h2 : f.f3.f2 = place) (h3 : aheadLt f g = false) : refStep place gone (some g) f = some g := by unfold refStep; rw [h, decide_eq_true h2]; simp [h3]
def BSt (w : World) (Bb b1 b2 : Nat) (g : Fd) (vg vc : Value) (go : List Int) (cs : List Fd) (W : World) : Prop :=
 Below w.heap.size w W ∧ W.heap[w.heap.size]? = some (.cells #[.int .i64 0, .int .i64 0, .bool false, .int .i64 0, .int .i64 0, .int .i64 0, .int .i64 0, .int .i64 0, .bool false, .string ⟨#[]⟩] 36 (0, 0)) ∧ W.heap[Bb]? = some (.cells #[.int .i64 g.f0, .int .i64 g.f1, .bool g.f2, .int .i64 g.f3.f0, .int .i64 g.f3.f1, .int .i64 g.f3.f2, .int .i64 g.f3.f3, .int .i64 g.f3.f4, .bool g.f3.f5, .string g.f4] 36 (0, 0))
  ∧ Kd.R (Kd.int .i64) 3 W b1 (fun k => True ∧ k ≠ Bb) vg go ∧ Kd.R k36 36 W b2 (fun k => True ∧ k ≠ Bb) vc cs ∧ w.heap.size < Bb
theorem BSt.below {w W W' : World} {Bb b1 b2 : Nat} {g : Fd} {vg vc : Value} {go : List Int} {cs : List Fd} (h : BSt w Bb b1 b2 g vg vc go cs W) (hb : Below W.heap.size W W') : BSt w Bb b1 b2 g vg vc go cs W' := by
 obtain ⟨h1, h2, h3, h4, h5, h6⟩ := h
 exact ⟨below_then h1 h1.size hb, blk_below h2 hb, blk_below h3 hb, Kd.R_below h4 hb, Kd.R_below h5 hb, h6⟩
theorem BSt.alloc {w W : World} {Bb b1 b2 : Nat} {g : Fd} {vg vc : Value} {go : List Int} {cs : List Fd} (h : BSt w Bb b1 b2 g vg vc go cs W) (o : Obj) : BSt w Bb b1 b2 g vg vc go cs (W.alloc o) := h.below (below_alloc (Below.refl _ _) o)
theorem BSt.store {w W W' : World} {Bb b1 b2 : Nat} {f g : Fd} {vg vc : Value} {go : List Int} {cs : List Fd} (h : BSt w Bb b1 b2 g vg vc go cs W) (hf : W'.heap[Bb]? = some (.cells #[.int .i64 f.f0, .int .i64 f.f1, .bool f.f2, .int .i64 f.f3.f0, .int .i64 f.f3.f1, .int .i64 f.f3.f2, .int .i64 f.f3.f3, .int .i64 f.f3.f4, .bool f.f3.f5, .string f.f4] 36 (0, 0))) (hg : W.grownBy W' (some Bb)) : BSt w Bb b1 b2 f vg vc go cs W' := by
 obtain ⟨h1, h2, h3, h4, h5, h6⟩ := h
 exact ⟨h1.grown hg h1.size (fun k hk => by cases hk; omega), blk_grown h2 hg (fun e => by have := Option.some.inj e; omega), hf, Kd.R_grown h4 hg (fun k hk e => hk.2 (Option.some.inj e)), Kd.R_grown h5 hg (fun k hk e => hk.2 (Option.some.inj e)), h6⟩
end Go.Proofs.Ytdmbibjgiehboaa.X
