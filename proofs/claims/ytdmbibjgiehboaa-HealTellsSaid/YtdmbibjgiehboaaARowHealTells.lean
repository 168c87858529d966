/-
  Whatever pages, blocks, tenant, epoch and size are given, HealTells returns true: Heal answers as the reference tells. No condition.
-/
import Derived.Test.YtdmbibjgiehboaaAOpenF
import Derived.Test.YtdmbibjgiehboaaAHealD
namespace Go.Proofs.Ytdmbibjgiehboaa.healTells
open Go.ChangeShapes Go.WideShapes Go.ChangeAt Go.RowKit Go.Joins
set_option linter.unusedVariables false
theorem own : ownKnob Try.prog.godebug = none := by kernel_rfl
theorem laidOut : laidOutB Try.prog = true := by kernel_rfl
theorem walk (a0 : Option Addr) (len0 cap0 : Nat) (l : List OpenF.Fd) (m1 m2 m3 m4 : Int) (w : World) (h0 : OpenF.IsRow w a0 len0 cap0 l) (hb : l.length ≤ 1599289640401) :
  Calls Try.prog 3 #[.slice a0 len0 cap0, .int .i64 m1, .int .i64 m2, .int .i64 m3, .int .i64 m4] w fun e w' => e = .returned (.bool true) ∧ Below w.heap.size w w' := by
 obtain ⟨rfl, hc0, hr0⟩ := h0
 obtain ⟨k, h⟩ := Gen.ev_ex (Hl.HealTells_ev l m1 m2 m3 m4 hb)
 refine (P.almshouselaw17_HealTells.calls k a0 cap0 l m1 m2 m3 m4 true w hr0 hc0 h).mono ?_
 rintro e w' ⟨rfl, hd⟩
 exact ⟨rfl, hd⟩
set_option maxRecDepth 100000 in
theorem lifted (os : Os) (started : os.Started) (H : Type) (enc : TypeId × Value → H) :
  ReturnsInHanded {} Try.checked os 3 .any (Rows.healTellsSpec.pre6 enc Try.prog Try.f3 Rows.healTellsRow.domain false) (Rows.healTellsSpec.post enc Try.prog Try.f3 false true false false) := by
 refine returnsInHanded_of_change_sized (C := Try.checked) own started (by kernel_rfl) Try.func3
  (ChangeSpec.witness6 (enc := enc) (C := Try.checked) false ⟨#[], #[.slice none 0 0, .int .i64 0, .int .i64 0, .int .i64 0, .int .i64 0], []⟩ 8 (by kernel_rfl) (by kernel_rfl) (by kernel_rfl) (by kernel_rfl)) ?_
 intro W base args ds gs before hval0 hW hcnd hsz0 _
 have hval : ∀ (j : Nat) t v, Try.f3.params[j]? = some t → args[j]? = some v → Value.okWide Try.prog W .any base t v := hval0
 have hsz : (DataW.weightsEach Try.prog (Try.f3.params.toList ++ Rows.healTellsSpec.plain.varTypes Try.prog) (ds ++ gs)).all (· ≤ reachBytes) = true := hsz0
 have hW' := hW
 obtain ⟨p, q, hA0, hV, rfl, hfz, hnd⟩ := hW
 have hA : DataW.TrodAll enc Try.prog W 0 (fun _ => true) true Try.f3.params.toList args.toList ds p := hA0
 rw [Try.params3] at hA hval hsz
 clear hsz0
 obtain ⟨v0, vs0, d0, ds0, p0, q0, hargs, rfl, rfl, h0, r0⟩ := trodAll_cons hA
 obtain ⟨v1, vs1, d1, ds1, p1, q1, rfl, rfl, rfl, h1, r1⟩ := trodAll_cons r0
 obtain ⟨v2, vs2, d2, ds2, p2, q2, rfl, rfl, rfl, h2, r2⟩ := trodAll_cons r1
 obtain ⟨v3, vs3, d3, ds3, p3, q3, rfl, rfl, rfl, h3, r3⟩ := trodAll_cons r2
 obtain ⟨v4, vs4, d4, ds4, p4, q4, rfl, rfl, rfl, h4, r4⟩ := trodAll_cons r3
 obtain ⟨rfl, rfl, rfl⟩ := trodAll_nil r4
 obtain rfl : args = #[v0, v1, v2, v3, v4] := by cases args; simp_all
 obtain ⟨rfl, rfl⟩ := trodVars_none hV
 obtain ⟨a0, len0, cap0, rfl⟩ := okWide_slice Try.underlying22 (hval 0 22 v0 rfl rfl)
 have k0 := h0
 have lt0 : ∀ x ∈ p0, x.block < W.heap.size := by obtain ⟨m, hm⟩ := k0; exact DataW.trod_lt m _ _ _ hm
 obtain ⟨l, w0, hlb⟩ : ∃ l, OpenF.IsRow W a0 len0 cap0 l ∧ l.length ≤ 1599289640401 := by
  obtain ⟨fuel, hf⟩ := h0
  exact OpenF.open_founds hf (fun es rs e => sized_slice (j := 0) (t := 22) hsz rfl (by rw [e]; rfl) Try.underlying22)
 obtain ⟨a1, rfl, rfl, rfl, w1⟩ := open_int Try.underlying3 (hval 1 3 v1 rfl rfl) h1
 obtain ⟨a2, rfl, rfl, rfl, w2⟩ := open_int Try.underlying3 (hval 2 3 v2 rfl rfl) h2
 obtain ⟨a3, rfl, rfl, rfl, w3⟩ := open_int Try.underlying3 (hval 3 3 v3 rfl rfl) h3
 obtain ⟨a4, rfl, rfl, rfl, w4⟩ := open_int Try.underlying3 (hval 4 3 v4 rfl rfl) h4
 clear hA0 hval0 hsz
 refine (walk a0 len0 cap0 l a1 a2 a3 a4 W w0 hlb).mono fun e W' ⟨he, bel⟩ => ?_
 subst he
 exact ⟨_, rfl, _, _, _, [], _, [], hW', trodAll_mk1 (shut_bool Try.underlying4 _), (trodAll_cons_mk (Below.trod laidOut (by kernel_rfl) (of_decide_eq_true (by kernel_rfl)) k0 bel lt0) (trodAll_cons_mk (shut_int Try.underlying3 w1) (trodAll_cons_mk (shut_int Try.underlying3 w2) (trodAll_cons_mk (shut_int Try.underlying3 w3) (trodAll_cons_mk (shut_int Try.underlying3 w4) trodAll_mk0))))), rfl, bel.frame _, fun h => by cases h⟩
theorem over : Rows.healTellsRow.holds Try.pinned (OpenSpec.ofChange Rows.healTellsSpec) :=
 OpenClaim.holds_of_wide 3 Try.f3 rfl rfl rfl rfl rfl rfl rfl ⟨rfl, rfl, rfl, rfl, rfl⟩ rfl rfl rfl rfl rfl (by kernel_rfl) Try.func3 (by kernel_rfl)
  (of_decide_eq_true (by kernel_rfl)) (by unfold Func.isWrapper; first | (rw [if_pos (by decide +kernel)]; kernel_rfl) | (rw [if_neg (by decide +kernel)]; exact ⟨rfl, rfl⟩))
  (fun os started H enc _ => lifted os started H enc)
theorem proved : Rows.HealTellsSaid := over
end Go.Proofs.Ytdmbibjgiehboaa.healTells
namespace Go.Proofs.Ytdmbibjgiehboaa
theorem healTells_holds : Rows.HealTellsSaid := healTells.proved
end Go.Proofs.Ytdmbibjgiehboaa
