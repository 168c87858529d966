-- Cut by a program of this session (wip/pr/pack.py) to what one claim needs.
import Derived.WalkKit
import Derived.ProofKit
import Derived.OpenShut
import Derived.ChangeOld
import Derived.Below
import Derived.SizedLaws
import Derived.Lib.SmallJoins
import Derived.Deep.SlicePairs
import Derived.Test.YtdmbibjgiehboaaRows
import Derived.Test.YtdmbibjgiehboaaAPx0
import Derived.Test.YtdmbibjgiehboaaAX
namespace Go.Proofs.Ytdmbibjgiehboaa.OpenF
open Go.ChangeShapes Go.WideShapes Go.ChangeAt Go.RowKit Go.Joins
set_option linter.unusedVariables false
abbrev Fd := P.S36
theorem kInt : Try.prog.cellsOf 3 = 1 := by kernel_rfl
theorem kBool : Try.prog.cellsOf 4 = 1 := by kernel_rfl
theorem kStr : Try.prog.cellsOf 9 = 1 := by kernel_rfl
theorem kTag : Try.prog.cellsOf 34 = 6 := by kernel_rfl
theorem kFound : Try.prog.cellsOf 36 = 10 := by kernel_rfl
theorem bFound : Try.prog.bytesOf 36 = 88 := by kernel_rfl
def cellsF (f : Fd) : List Value := [.int .i64 f.f0, .int .i64 f.f1, .bool f.f2, .int .i64 f.f3.f0, .int .i64 f.f3.f1, .int .i64 f.f3.f2, .int .i64 f.f3.f3, .int .i64 f.f3.f4, .bool f.f3.f5, .string f.f4]
section
variable {H : Type} {enc : TypeId × Value → H} {w : World} {base : Nat} {spare : Nat → Bool} {held : Bool}
theorem oneInt {n : Nat} {c : Value} {y : DataW H × List MemPlace} (h : DataW.trod enc Try.prog w base spare held n 3 [c] = some y) : ∃ z, c = .int .i64 z := by
 obtain ⟨z, e, _, _⟩ := DataW.trod_int Try.underlying3 h
 exact ⟨z, by simpa using e⟩
theorem oneBool {n : Nat} {c : Value} {y : DataW H × List MemPlace} (h : DataW.trod enc Try.prog w base spare held n 4 [c] = some y) : ∃ z, c = .bool z := by
 obtain ⟨z, e, _⟩ := DataW.trod_bool Try.underlying4 h
 exact ⟨z, by simpa using e⟩
theorem oneStr {n : Nat} {c : Value} {y : DataW H × List MemPlace} (h : DataW.trod enc Try.prog w base spare held n 9 [c] = some y) : ∃ z, c = .string z := by
 obtain ⟨z, e, _, _⟩ := DataW.trod_string Try.underlying9 h
 exact ⟨z, by simpa using e⟩
theorem tag_cells {fuel : Nat} {cs : List Value} {x : DataW H × List MemPlace} (h : DataW.trod enc Try.prog w base spare held fuel 34 cs = some x) :
  ∃ g : P.S34, cs = [.int .i64 g.f0, .int .i64 g.f1, .int .i64 g.f2, .int .i64 g.f3, .int .i64 g.f4, .bool g.f5] := by
 obtain ⟨xs, n, _, _, hl, hxl, hf⟩ := DataW.trod_struct Try.underlying34 h
 rw [kTag] at hl
 match cs, hl, xs, hxl with
 | [c0, c1, c2, c3, c4, c5], _, [y0, y1, y2, y3, y4, y5], _ =>
  have g0 := hf 0 _ rfl
  have g1 := hf 1 _ rfl
  have g2 := hf 2 _ rfl
  have g3 := hf 3 _ rfl
  have g4 := hf 4 _ rfl
  have g5 := hf 5 _ rfl
  simp [kInt, kBool] at g0 g1 g2 g3 g4 g5
  obtain ⟨z0, rfl⟩ := oneInt g0
  obtain ⟨z1, rfl⟩ := oneInt g1
  obtain ⟨z2, rfl⟩ := oneInt g2
  obtain ⟨z3, rfl⟩ := oneInt g3
  obtain ⟨z4, rfl⟩ := oneInt g4
  obtain ⟨z5, rfl⟩ := oneBool g5
  exact ⟨⟨z0, z1, z2, z3, z4, z5⟩, rfl⟩
theorem found_cells {fuel : Nat} {cs : List Value} {x : DataW H × List MemPlace} (h : DataW.trod enc Try.prog w base spare held fuel 36 cs = some x) : ∃ f : Fd, cs = cellsF f := by
 obtain ⟨xs, n, _, _, hl, hxl, hf⟩ := DataW.trod_struct Try.underlying36 h
 rw [kFound] at hl
 match cs, hl, xs, hxl with
 | [c0, c1, c2, c3, c4, c5, c6, c7, c8, c9], _, [y0, y1, y2, y3, y4], _ =>
  have g0 := hf 0 _ rfl
  have g1 := hf 1 _ rfl
  have g2 := hf 2 _ rfl
  have g3 := hf 3 _ rfl
  have g4 := hf 4 _ rfl
  simp [kInt, kBool, kStr, kTag] at g0 g1 g2 g3 g4
  obtain ⟨z0, rfl⟩ := oneInt g0
  obtain ⟨z1, rfl⟩ := oneInt g1
  obtain ⟨z2, rfl⟩ := oneBool g2
  obtain ⟨g, hg⟩ := tag_cells g3
  obtain ⟨z4, rfl⟩ := oneStr g4
  simp only [List.cons.injEq, and_true] at hg
  obtain ⟨rfl, rfl, rfl, rfl, rfl, rfl⟩ := hg
  exact ⟨⟨z0, z1, z2, g, z4⟩, rfl⟩
def IsRow (w : World) (a : Option Addr) (len cap : Nat) (l : List Fd) : Prop :=
 l.length = len ∧ len ≤ cap ∧ YtdmbibjgiehboaaW.PrintWords.Kd.C P.k36 w a l.length l
theorem row_of {W : World} {x : Addr} {len : Nat} {Z : Nat → Fd} (hm : len ≤ 9223372036854775807) (h : ∀ i, i < len → ∀ j, j < 10 → W.cell? ((x.add (i * 10)).add j) = (cellsF (Z i))[j]?) :
  YtdmbibjgiehboaaW.PrintWords.Kd.C P.k36 W (some x) ((List.range len).map Z).length ((List.range len).map Z) := by
 refine ⟨rfl, by simpa using hm, fun _ => ⟨x, rfl, fun j p hj => ?_⟩⟩
 obtain ⟨hl, hp⟩ := List.getElem?_eq_some_iff.1 hj
 have hlt : j < len := by simpa using hl
 simp at hp
 subst hp
 refine ⟨cellsF (Z j), rfl, P.k36_mk W (Z j), fun i u hu => ?_⟩
 have hi : i < 10 := by
  obtain ⟨hh, _⟩ := List.getElem?_eq_some_iff.1 hu
  exact hh
 have := h j hlt i hi
 rw [hu] at this
 rw [← this, Go.Deep.add_add]
 rfl
theorem open_founds {fuel : Nat} {a : Option Addr} {len cap : Nat} {d : DataW H} {ps : List MemPlace} (h : DataW.trod enc Try.prog w base spare held fuel 22 [.slice a len cap] = some (d, ps))
  (hsz : ∀ es rs : List (DataW H), d = .slice es rs → (es.length + rs.length) * Try.prog.bytesOf 36 ≤ reachBytes) : ∃ l : List Fd, IsRow w a len cap l ∧ l.length ≤ 1599289640401 := by
 rcases Go.Deep.open_slice Try.underlying22 h with ⟨hcs, _⟩ | ⟨x, l, c, m, n, D, Pl, hcs, _, hl, hm, hmm, hxd, hx⟩
 ·simp at hcs
  obtain ⟨rfl, rfl, rfl⟩ := hcs
  exact ⟨[], ⟨rfl, Nat.le_refl _, YtdmbibjgiehboaaW.PrintWords.Kd.C_nil _ _⟩, by decide⟩
 ·simp at hcs
  obtain ⟨rfl, rfl, rfl⟩ := hcs
  have hle : len ≤ m := by rw [hmm]; split <;> omega
  have hb := hsz _ _ (Prod.ext_iff.1 hxd).1
  rw [bFound, List.length_map, List.length_range] at hb
  have hr := reachBytes_lt
  have hmx : len ≤ 9223372036854775807 := Nat.le_trans hl (Nat.le_trans hm (by decide))
  have hz : ∀ i, i < len → ∃ f : Fd, ∀ j, j < 10 → w.cell? ((x.add (i * 10)).add j) = (cellsF f)[j]? := by
   intro i hi
   obtain ⟨cs', h1, h2⟩ := hx i (by omega)
   rw [kFound] at h1
   obtain ⟨_, hlen, hcell⟩ := World.cells?_some h1
   obtain ⟨f, rfl⟩ := found_cells h2
   exact ⟨f, hcell⟩
  haveI : Inhabited Fd := ⟨⟨0, 0, false, ⟨0, 0, 0, 0, 0, false⟩, ⟨#[]⟩⟩⟩
  obtain ⟨Z, hZ⟩ := Go.Deep.choose_lt hz
  exact ⟨(List.range len).map Z, ⟨by simp, hl, row_of hmx hZ⟩, by rw [List.length_map, List.length_range]; omega⟩
end
end Go.Proofs.Ytdmbibjgiehboaa.OpenF
