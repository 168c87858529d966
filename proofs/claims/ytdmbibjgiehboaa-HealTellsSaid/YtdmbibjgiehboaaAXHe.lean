-- Cut by a program of this session (wip/pr/pack.py) to what one claim needs.
import Derived.Shelf.SlSortCmp.NoneTotal
import Derived.Test.YtdmbibjgiehboaaAXSk
import Derived.Test.YtdmbibjgiehboaaAXHd
import Derived.Test.YtdmbibjgiehboaaAPx21
namespace Go.Proofs.Ytdmbibjgiehboaa.X
open Go.RowKit Go.Shelf Go.Lib Go.Sort Go.Proofs.YtdmbibjgiehboaaW.PrintWords Go.Proofs.YtdmbibjgiehboaaW.PrintLast Go.Proofs.YtdmbibjgiehboaaW.PrintMore Go.Proofs.Ytdmbibjgiehboaa.P
set_option linter.unusedVariables false
set_option linter.unusedSimpArgs false
abbrev Sp := S40
instance : Inhabited Sp := ⟨z40⟩
def encS (x : Sp) : List Value := [.int .i64 x.f0, .int .i64 x.f1, .int .i64 x.f2]
def cmpI (x y : Int) : Int := if x < y then -1 else if x > y then 1 else 0
def cfS (x y : Sp) : Int := cmpI x.f0 y.f0
theorem ltS (x y : Sp) : ltOf cfS x y = decide (x.f0 < y.f0) := by
 unfold ltOf cfS cmpI
 by_cases h1 : x.f0 < y.f0
 ·simp [h1]
 ·by_cases h2 : y.f0 < x.f0 <;> simp [h1, h2]
theorem swoS : SWO (ltOf cfS) where
 irrefl x := by rw [ltS]; simp
 trans x y z h1 h2 := by rw [ltS] at *; simp at *; omega
 ntrans x y z h1 h2 := by rw [ltS] at *; simp at *; omega
theorem compare_calls (x y : Int) (w : World) : Calls Try.prog 23 #[.int .i64 x, .int .i64 y] w fun e w' => e = .returned (.int .i64 (cmpI x y)) ∧ w' = w := by
 have e : cmpI x y = Lib.compareInt x y := by
  unfold cmpI Lib.compareInt
  by_cases h1 : x < y
  ·simp [h1]
  ·by_cases h2 : y < x <;> simp [h1, h2]
 rw [e]
 exact Try.cmp_Compare_int x y w
set_option maxHeartbeats 1000000 in
theorem closureS (x y : Sp) (W : World) : Calls Try.prog 22 #[.agg (encS x).toArray, .agg (encS y).toArray] W fun e w' => e = .returned (.int .i64 (cfS x y)) ∧ ∃ q os', w' = grow (W.drewN q) os' := by
 have hu := Try.underlying40
 have hcon := fun W' => compare_calls x.f0 y.f0 W'
 show Calls Try.prog 22 #[.agg #[.int .i64 x.f0, .int .i64 x.f1, .int .i64 x.f2], .agg #[.int .i64 y.f0, .int .i64 y.f1, .int .i64 y.f2]] W _
 unfold cfS
 generalize cmpI x.f0 y.f0 = r at hcon ⊢
 go_enter Try.func22, Try.ntmps22
 go_wp2_with (go_at_call 23; refine (hcon _).mono ?_; rintro e w' ⟨rfl, rfl⟩)
 go_ret
 exact ⟨rfl, 0, _, by rw [alloc_eq_grow, alloc_eq_grow, grow_grow]; rfl⟩
theorem kS_open {w : World} {base : Nat} {ok : Nat → Prop} {x : Sp} {cs : List Value} (h : k40.M w base ok x cs) : cs = encS x := k40_openM h
theorem kS_mk (w : World) (base : Nat) (ok : Nat → Prop) (x : Sp) : k40.M w base ok x (encS x) := k40_mkM w base ok x
theorem encS_one (x : Sp) : ∀ v ∈ encS x, v.oneCell' = true := by
 intro v hv
 simp [encS] at hv
 rcases hv with rfl | rfl | rfl <;> rfl
theorem sortS_calls {w0 w : World} {v : Value} {xs : List Sp} (hB : Below w0.heap.size w0 w) (h : Kd.R k40 40 w w0.heap.size (fun _ => True) v xs) (hn : xs.length ≤ 100000) :
  Calls Try.prog 21 #[v, .func (.func 22) #[] #[]] w fun e w' => e = .returned (.tuple #[]) ∧ ∃ ys : List Sp, ys.Perm xs ∧ ys.Pairwise (fun a b => a.f0 ≤ b.f0)
   ∧ Kd.R k40 40 w' w0.heap.size (fun _ => True) v ys ∧ Below w0.heap.size w0 w' ∧ w.grownBy w' v.ownBlock := by
 rcases Nat.eq_zero_or_pos xs.length with h0 | h0
 ·have h0' := List.eq_nil_of_length_eq_zero h0
  subst h0'
  obtain ⟨A, c, rfl, hc⟩ := Kd.R_reads h
  refine (AnyF.slices_SortFunc_none Try.sortSp A c _ w).mono ?_
  rintro e w' ⟨rfl, rfl⟩
  exact ⟨rfl, [], List.Perm.refl _, List.Pairwise.nil, h, hB, ⟨rfl, rfl, rfl, Nat.le_refl _, fun _ _ _ => rfl⟩⟩
 ·obtain ⟨g, cap, rfl, hge, hg, _⟩ := Kd.R_form h h0
  have hH := rowK_holds (enc := encS) (d := k40) (fun _ => rfl) (by decide) kS_open kS_mk h
  have eg : ∀ args w, (callFunc 22 args).run Try.prog w = .ok (.enter 22 args) w := enters_of Try.func22 (by kernel_rfl) rfl
  have hcon := AnyQ.slices_SortFunc Try.sortSp 3 Try.isAgg40 Try.sizeOf40 encS (fun _ => rfl) encS_one cfS swoS 22 #[] g 0 cap xs.toArray w eg (fun _ _ _ _ x y => closureS x y _) hH.1 hg (by simp; omega)
  rw [show xs.toArray.size = xs.length by simp] at hcon
  refine hcon.mono ?_
  rintro e w' ⟨rfl, d', n, os, hp, hs, rfl⟩
  obtain ⟨p1, _, p3⟩ := hp
  have hsz : d'.size = xs.length := by simpa using p1
  have e1 : d'.extract 0 xs.length = d' := by rw [← hsz]; simp
  have e2 : xs.toArray.extract 0 xs.length = xs.toArray := by
   have : xs.length = xs.toArray.size := by simp
   rw [this]; simp
  rw [e1, e2] at p3
  have hy : d'.toList.length = xs.length := by simpa using hsz
  obtain ⟨q1, q2, q3⟩ := rowK_sorted (enc := encS) (d := k40) (fun _ => rfl) (by decide) kS_open kS_mk hB h hy n os
  refine ⟨rfl, d'.toList, by simpa using p3, ?_, q1, q2, q3⟩
  rw [List.pairwise_iff_getElem]
  intro i j hi hj hij
  have hi' : i < d'.size := by simpa using hi
  have hj' : j < d'.size := by simpa using hj
  have := hs i j (Nat.zero_le _) hij (by omega)
  rw [getElem!_pos d' i hi', getElem!_pos d' j hj', ltS] at this
  simp only [Array.getElem_toList]
  have := of_decide_eq_false this
  omega
def newerB (f g : Fd) : Bool := if f.f3.f3 = g.f3.f3 then (if f.f3.f5 = true then false else g.f3.f5) else decide (f.f3.f3 > g.f3.f3)
def aheadLt (f g : Fd) : Bool := newerB f g || (!newerB g f && (decide (f.f0 < g.f0) || (decide (f.f0 = g.f0) && decide (f.f1 < g.f1))))
theorem newer_f (f g : Fd) : tag_Newer.f f.f3.f0 f.f3.f1 f.f3.f2 f.f3.f3 f.f3.f4 f.f3.f5 g.f3.f0 g.f3.f1 g.f3.f2 g.f3.f3 g.f3.f4 g.f3.f5 = some (newerB f g) := by
 unfold tag_Newer.f newerB
 split
 ·split <;> rfl
 ·rfl
theorem comp_f (x y : Int) : cmp_Compare_int.f x y = some (cmpI x y) := by
 unfold cmp_Compare_int.f cmpI
 simp only [cmp_isNaN_int.f, bne_self_eq_false, Option.bind_some, Bool.false_eq_true, if_false]
 split
 ·rfl
 ·split <;> rfl
theorem or_f (x y : Int) : cmp_Or_int.f 3 [x, y] = some (if x = 0 then y else x) := by
 unfold cmp_Or_int.f
 have e1 : wrap64 (0 + 1) = 1 := by unfold wrap64; omega
 have e2 : wrap64 (1 + 1) = 2 := by unfold wrap64; omega
 have r0 : rd [x, y] 0 = x := rfl
 have r1 : rd [x, y] 1 = y := rfl
 rw [show (([x, y] : List Int).length : Int) = 2 from rfl]
 rw [cmp_Or_int.l0, if_pos (by decide), if_pos (by decide), if_pos (by simp), r0, e1]
 by_cases h : x = 0
 ·rw [if_pos h, if_pos h, cmp_Or_int.l0, if_pos (by decide), if_pos (by decide), if_pos (by simp), r1, e2]
  by_cases h2 : y = 0
  ·rw [if_pos h2, cmp_Or_int.l0, if_neg (by decide), h2]
  ·rw [if_neg h2]
 ·rw [if_neg h, if_neg h]
theorem ahead_ok (f g : Fd) : ∃ r, heal_ahead.f 3 f.f0 f.f1 f.f2 f.f3.f0 f.f3.f1 f.f3.f2 f.f3.f3 f.f3.f4 f.f3.f5 f.f4 g.f0 g.f1 g.f2 g.f3.f0 g.f3.f1 g.f3.f2 g.f3.f3 g.f3.f4 g.f3.f5 g.f4 = some r ∧ decide (r < 0) = aheadLt f g := by
 unfold heal_ahead.f aheadLt
 rw [newer_f f g, newer_f g f]
 simp only [Option.bind_some]
 cases h1 : newerB f g with
 | true => exact ⟨-1, rfl, rfl⟩
 | false =>
  cases h2 : newerB g f with
  | true => exact ⟨1, rfl, rfl⟩
  | false =>
   simp only [Bool.false_eq_true, if_false, comp_f, Option.bind_some, or_f]
   refine ⟨_, rfl, ?_⟩
   unfold cmpI
   by_cases a1 : f.f0 < g.f0
   ·rw [if_pos a1, if_neg (by decide), decide_eq_true a1]; rfl
   ·rw [if_neg a1, decide_eq_false a1]
    by_cases a2 : f.f0 > g.f0
    ·rw [if_pos a2, if_neg (by decide), decide_eq_false (show ¬ f.f0 = g.f0 by omega)]; rfl
    ·rw [if_neg a2, if_pos rfl, decide_eq_true (show f.f0 = g.f0 by omega)]
     by_cases a3 : f.f1 < g.f1
     ·rw [if_pos a3, decide_eq_true a3]; rfl
     ·rw [if_neg a3, decide_eq_false a3]
      split <;> rfl
def fval (f : Fd) : Value := .agg (encF f).toArray
def getF (k : Int) : List (Int × Fd) → Option Fd
 | [] => none
 | p :: m => if k = p.1 then some p.2 else getF k m
def putF (k : Int) (v : Fd) : List (Int × Fd) → List (Int × Fd)
 | [] => [(k, v)]
 | p :: m => if k = p.1 then (k, v) :: m else p :: putF k v m
def vals (m : List (Int × Fd)) : List (Int × Value) := m.map fun p => (p.1, fval p.2)
theorem get_vals (k : Int) : ∀ m : List (Int × Fd), Mp.get k (vals m) = (getF k m).map fval
 | [] => rfl
 | p :: m => by
  rw [getF]
  show (if k = p.1 then some (fval p.2) else Mp.get k (vals m)) = _
  by_cases h : k = p.1
  ·rw [if_pos h, if_pos h]; rfl
  ·rw [if_neg h, if_neg h]; exact get_vals k m
theorem put_vals (k : Int) (f : Fd) : ∀ m : List (Int × Fd), Mp.put k (fval f) (vals m) = vals (putF k f m)
 | [] => rfl
 | p :: m => by
  rw [putF]
  show (if k = p.1 then (k, fval f) :: vals m else (p.1, fval p.2) :: Mp.put k (fval f) (vals m)) = _
  by_cases h : k = p.1
  ·rw [if_pos h, if_pos h]; rfl
  ·rw [if_neg h, if_neg h, put_vals k f m]; rfl
def bestStep (gone : List Int) (m : List (Int × Fd)) (f : Fd) : List (Int × Fd) :=
 if !decide (f.f0 ∈ gone) && (match getF f.f3.f2 m with | none => true | some g => aheadLt f g) then putF f.f3.f2 f m else m
def bestL (gone : List Int) (l : List Fd) : List (Int × Fd) := l.foldl (bestStep gone) []
theorem bestL_snoc (gone : List Int) (l : List Fd) (k : Nat) (f : Fd) (h : k < l.length) (hf : l[k]! = f) : bestL gone (l.take (k + 1)) = bestStep gone (bestL gone (l.take k)) f := by
 rw [take_at l k f h hf]; unfold bestL; rw [List.foldl_append]; rfl
def seqStep (n : Int) (f : Fd) : Int := max n (wrap64 (f.f3.f3 + 1))
def seqL (l : List Fd) : Int := l.foldl seqStep 0
theorem seqL_snoc (l : List Fd) (k : Nat) (f : Fd) (h : k < l.length) (hf : l[k]! = f) : seqL (l.take (k + 1)) = seqStep (seqL (l.take k)) f := by
 rw [take_at l k f h hf]; unfold seqL; rw [List.foldl_append]; rfl
def spotOf (p : Int × Fd) : Sp := ⟨p.1, p.2.f0, p.2.f1⟩
theorem putF_len (k : Int) (f : Fd) : ∀ m : List (Int × Fd), (putF k f m).length ≤ m.length + 1
 | [] => by simp [putF]
 | p :: m => by
  rw [putF]
  split
  ·simp
  ·have := putF_len k f m; simp; omega
theorem bestL_len (gone : List Int) (l : List Fd) : (bestL gone l).length ≤ l.length := by
 have key : ∀ (l : List Fd) (m : List (Int × Fd)), (l.foldl (bestStep gone) m).length ≤ m.length + l.length := by
  intro l
  induction l with
  | nil => intro m; simp
  | cons f l ih =>
   intro m
   have := ih (bestStep gone m f)
   rw [List.foldl_cons, List.length_cons]
   have h2 : (bestStep gone m f).length ≤ m.length + 1 := by
    unfold bestStep
    generalize (!decide (f.f0 ∈ gone) && (match getF f.f3.f2 m with | none => true | some g => aheadLt f g)) = c
    cases c with
    | true => exact putF_len _ _ _
    | false => exact Nat.le_succ _
   omega
 have := key l []
 simpa [bestL] using this
end Go.Proofs.Ytdmbibjgiehboaa.X
