/-
  Whatever wishes, blocks and pages are given, QuotaFullest returns true: the program's fullest choice is what going through all choices tells. No condition.
-/
import Derived.WalkKit
import Derived.ProofKit
import Derived.OpenShut
import Derived.ChangeOld
import Derived.Below
import Derived.SizedLaws
import Derived.Lib.SmallJoins
import Derived.Deep.SlicePairs
import Derived.Test.YtpcpllabegfdjaaRows
import Derived.Test.YtpcpllabegfdjaaBQuotaD
namespace Go.Proofs.Ytpcpllabegfdjaa.quotaFullest
open Go.ChangeShapes Go.WideShapes Go.ChangeAt Go.RowKit Go.Joins
set_option linter.unusedVariables false
theorem own : ownKnob Try.prog.godebug = none := by kernel_rfl
theorem laidOut : laidOutB Try.prog = true := by kernel_rfl
theorem cellsW : Try.prog.cellsOf 34 = 2 := by kernel_rfl
theorem row_of {W : World} {x : Addr} {len : Nat} {Z0 Z1 : Nat → Int} (hm : len ≤ 9223372036854775807) (h : ∀ i, i < len → W.cell? (x.add (i * 2)) = some (.int .i64 (Z0 i)) ∧ W.cell? (x.add (i * 2 + 1)) = some (.int .i64 (Z1 i))) :
  YtpcpllabegfdjaaW.PrintWords.Kd.C P.k34 W (some x) ((List.range len).map fun i => (⟨Z0 i, Z1 i⟩ : P.S34)).length ((List.range len).map fun i => (⟨Z0 i, Z1 i⟩ : P.S34)) := by
 refine ⟨rfl, by simpa using hm, fun _ => ⟨x, rfl, fun j p hj => ?_⟩⟩
 obtain ⟨hl, hp⟩ := List.getElem?_eq_some_iff.1 hj
 have hlt : j < len := by simpa using hl
 simp at hp
 subst hp
 refine ⟨[.int .i64 (Z0 j), .int .i64 (Z1 j)], rfl, P.k34_mk W ⟨Z0 j, Z1 j⟩, fun i u hu => ?_⟩
 match i, hu with
 | 0, hu =>
  obtain rfl : Value.int .i64 (Z0 j) = u := by simpa using hu
  exact (h j hlt).1
 | 1, hu =>
  obtain rfl : Value.int .i64 (Z1 j) = u := by simpa using hu
  exact (h j hlt).2
def IsRow (w : World) (a : Option Addr) (len cap : Nat) (l : List P.S34) : Prop :=
 l.length = len ∧ len ≤ cap ∧ YtpcpllabegfdjaaW.PrintWords.Kd.C P.k34 w a l.length l
theorem walk (a0 : Option Addr) (len0 cap0 : Nat) (l : List P.S34) (m1 m2 : Int) (w : World) (h0 : IsRow w a0 len0 cap0 l) (wm1 : (Lit.int .i64 m1).wf = true) (wm2 : (Lit.int .i64 m2).wf = true) :
  Calls Try.prog 3 #[.slice a0 len0 cap0, .int .i64 m1, .int .i64 m2] w fun e w' => e = .returned (.bool true) ∧ Below w.heap.size w w' := by
 obtain ⟨rfl, hc0, hr0⟩ := h0
 obtain ⟨k, h⟩ := Gen.ev_ex (Qt.QuotaFullest_ev l m1 m2)
 refine (X.almshouselaw41_QuotaFullest.calls k a0 cap0 l m1 m2 true w hr0 hc0 h).mono ?_
 rintro e w' ⟨rfl, hd⟩
 exact ⟨rfl, hd⟩
set_option maxRecDepth 100000 in
theorem lifted (os : Os) (started : os.Started) (H : Type) (enc : TypeId × Value → H) :
  ReturnsInHanded {} Try.checked os 3 .any (Rows.quotaFullestSpec.pre6 enc Try.prog Try.f3 Rows.quotaFullestRow.domain false) (Rows.quotaFullestSpec.post enc Try.prog Try.f3 false true false false) := by
 refine returnsInHanded_of_change_sized (C := Try.checked) own started (by kernel_rfl) Try.func3
  (ChangeSpec.witness6 (enc := enc) (C := Try.checked) false ⟨#[], #[.slice none 0 0, .int .i64 0, .int .i64 0], []⟩ 8 (by kernel_rfl) (by kernel_rfl) (by kernel_rfl) (by kernel_rfl)) ?_
 intro W base args ds gs before hval0 hW hcnd hsz0 _
 have hval : ∀ (j : Nat) t v, Try.f3.params[j]? = some t → args[j]? = some v → Value.okWide Try.prog W .any base t v := hval0
 have hW' := hW
 obtain ⟨p, q, hA0, hV, rfl, hfz, hnd⟩ := hW
 have hA : DataW.TrodAll enc Try.prog W 0 (fun _ => true) true Try.f3.params.toList args.toList ds p := hA0
 rw [Try.params3] at hA hval
 obtain ⟨v0, vs0, d0, ds0, p0, q0, hargs, rfl, rfl, h0, r0⟩ := trodAll_cons hA
 obtain ⟨v1, vs1, d1, ds1, p1, q1, rfl, rfl, rfl, h1, r1⟩ := trodAll_cons r0
 obtain ⟨v2, vs2, d2, ds2, p2, q2, rfl, rfl, rfl, h2, r2⟩ := trodAll_cons r1
 obtain ⟨rfl, rfl, rfl⟩ := trodAll_nil r2
 obtain rfl : args = #[v0, v1, v2] := by cases args; simp_all
 obtain ⟨rfl, rfl⟩ := trodVars_none hV
 obtain ⟨a0, len0, cap0, rfl⟩ := okWide_slice Try.underlying22 (hval 0 22 v0 rfl rfl)
 have k0 := h0
 have lt0 : ∀ x ∈ p0, x.block < W.heap.size := by obtain ⟨m, hm⟩ := k0; exact DataW.trod_lt m _ _ _ hm
 obtain ⟨l, w0⟩ : ∃ l, IsRow W a0 len0 cap0 l := by
  obtain ⟨fuel, hf⟩ := h0
  rcases Go.Deep.open_slice_pairs Try.underlying22 Try.underlying34 cellsW rfl rfl (by kernel_rfl) (by kernel_rfl) hf with ⟨hcs, _⟩ | ⟨x, l, c, m, n, V0, V1, D0, D1, P0, P1, hcs, _, hl, hm, hmm, _, hx⟩
  ·simp [Value.cells] at hcs
   obtain ⟨rfl, rfl, rfl⟩ := hcs
   exact ⟨[], rfl, Nat.le_refl _, YtpcpllabegfdjaaW.PrintWords.Kd.C_nil _ _⟩
  ·simp [Value.cells] at hcs
   obtain ⟨rfl, rfl, rfl⟩ := hcs
   have hle : len0 ≤ m := by rw [hmm]; split <;> omega
   have hz : ∀ i, i < len0 → ∃ z : Int × Int, W.cell? (x.add (i * 2)) = some (.int .i64 z.1) ∧ W.cell? (x.add (i * 2 + 1)) = some (.int .i64 z.2) := by
    intro i hi
    obtain ⟨g0, g1, t0, t1⟩ := hx i (by omega)
    obtain ⟨n0, e0, _, _⟩ := DataW.trod_int Try.underlying3 t0
    obtain ⟨n1, e1, _, _⟩ := DataW.trod_int Try.underlying3 t1
    simp at e0 e1
    rw [e0] at g0; rw [e1] at g1
    exact ⟨(n0, n1), g0, g1⟩
   obtain ⟨Z, hZ⟩ := Go.Deep.choose_lt hz
   have hmx : len0 ≤ 9223372036854775807 := Nat.le_trans hl (Nat.le_trans hm (by decide))
   exact ⟨(List.range len0).map fun i => ⟨(Z i).1, (Z i).2⟩, by simp, hl, row_of (Z0 := fun i => (Z i).1) (Z1 := fun i => (Z i).2) hmx hZ⟩
 obtain ⟨a1, rfl, rfl, rfl, w1⟩ := open_int Try.underlying3 (hval 1 3 v1 rfl rfl) h1
 obtain ⟨a2, rfl, rfl, rfl, w2⟩ := open_int Try.underlying3 (hval 2 3 v2 rfl rfl) h2
 clear hA0 hval0 hsz0
 refine (walk a0 len0 cap0 l a1 a2 W w0 w1 w2).mono fun e W' ⟨he, bel⟩ => ?_
 subst he
 exact ⟨_, rfl, _, _, _, [], _, [], hW', trodAll_mk1 (shut_bool Try.underlying4 _), (trodAll_cons_mk (Below.trod laidOut (by kernel_rfl) (of_decide_eq_true (by kernel_rfl)) k0 bel lt0) (trodAll_cons_mk (shut_int Try.underlying3 w1) (trodAll_cons_mk (shut_int Try.underlying3 w2) trodAll_mk0))), rfl, bel.frame _, fun h => by cases h⟩
theorem over : Rows.quotaFullestRow.holds Try.pinned (OpenSpec.ofChange Rows.quotaFullestSpec) :=
 OpenClaim.holds_of_wide 3 Try.f3 rfl rfl rfl rfl rfl rfl rfl ⟨rfl, rfl, rfl, rfl, rfl⟩ rfl rfl rfl rfl rfl (by kernel_rfl) Try.func3 (by kernel_rfl)
  (of_decide_eq_true (by kernel_rfl)) (by unfold Func.isWrapper; first | (rw [if_pos (by decide +kernel)]; kernel_rfl) | (rw [if_neg (by decide +kernel)]; exact ⟨rfl, rfl⟩))
  (fun os started H enc _ => lifted os started H enc)
theorem proved : Rows.QuotaFullestSaid := over
end Go.Proofs.Ytpcpllabegfdjaa.quotaFullest
namespace Go.Proofs.Ytpcpllabegfdjaa
theorem quotaFullest_holds : Rows.QuotaFullestSaid := quotaFullest.proved
end Go.Proofs.Ytpcpllabegfdjaa
