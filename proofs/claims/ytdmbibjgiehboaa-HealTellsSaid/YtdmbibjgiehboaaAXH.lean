-- Cut by a program of this session (wip/pr/pack.py) to what one claim needs.
import Derived.Test.YtdmbibjgiehboaaAXHe
namespace Go.Proofs.Ytdmbibjgiehboaa.X
open Go.RowKit Go.Shelf Go.Lib Go.Proofs.YtdmbibjgiehboaaW.PrintWords Go.Proofs.YtdmbibjgiehboaaW.PrintLast Go.Proofs.YtdmbibjgiehboaaW.PrintMore Go.Proofs.Ytdmbibjgiehboaa.P
set_option linter.unusedVariables false
set_option linter.unusedSimpArgs false
def goneOf (l : List Fd) (a1 a2 a3 a4 : Int) : List Int := goneL (hasKey (mapOf a1 l)) (countsL a1 a2 a3 a4 l) (max a1 0).toNat 0 []
def bestOf (l : List Fd) (a1 a2 a3 a4 : Int) : List (Int × Fd) := bestL (goneOf l a1 a2 a3 a4) (countsL a1 a2 a3 a4 l)
def spotsOf (best : List (Int × Fd)) : List Sp := (best.map spotOf).mergeSort fun x y => decide (x.f0 ≤ y.f0)
def heal_Heal.f (l0 : List Fd) (a1 a2 a3 a4 : Int) : Option (List Sp × List Int × Int) :=
 if l0.length ≤ 1000 ∧ a1 ≤ 64 then some (spotsOf (bestOf l0 a1 a2 a3 a4), goneOf l0 a1 a2 a3 a4, seqL (mineL a1 a2 a3 l0)) else none
def HSt (w2 : World) (o : Array Value) (m : List (Int × Value)) (W : World) : Prop :=
 Below w2.heap.size w2 W ∧ W.heap[w2.heap.size]? = some (.cells o 28 (0, 0)) ∧ Mp.IMap W (w2.heap.size + 1) m
theorem HSt.below {w2 W W' : World} {o : Array Value} {m : List (Int × Value)} (h : HSt w2 o m W) (hb : Below W.heap.size W W') : HSt w2 o m W' :=
 ⟨below_then h.1 h.1.size hb, blk_below h.2.1 hb, h.2.2.below hb⟩
theorem HSt.alloc {w2 W : World} {o : Array Value} {m : List (Int × Value)} (h : HSt w2 o m W) (b : Obj) : HSt w2 o m (W.alloc b) := h.below (below_alloc (Below.refl _ _) b)
theorem HSt.map {w2 W W' : World} {o : Array Value} {m m' : List (Int × Value)} (h : HSt w2 o m W) (hm : Mp.IMap W' (w2.heap.size + 1) m') (hg : W.grownBy W' (some (w2.heap.size + 1))) : HSt w2 o m' W' :=
 ⟨h.1.grown hg h.1.size (fun k hk => by cases hk; omega), blk_grown h.2.1 hg (fun e => by have := Option.some.inj e; omega), hm⟩
theorem zeroFd (w : World) : (zeroValue 36).run Try.prog w = .ok (.agg #[.int .i64 0, .int .i64 0, .bool false, .int .i64 0, .int .i64 0, .int .i64 0, .int .i64 0, .int .i64 0, .bool false, .string ⟨#[]⟩]) w := by kernel_rfl
theorem healcells {W : World} {g : Nat} {u0 u1 u2 : Value} (h : W.heap[g]? = some (.cells #[u0, u1, u2] 28 (0, 0))) : W.cell? ⟨g, 0, none⟩ = some u0 ∧ W.cell? ⟨g, 1, none⟩ = some u1 ∧ W.cell? ⟨g, 2, none⟩ = some u2 :=
 ⟨(blk_cell h 0).trans rfl, (blk_cell h 1).trans rfl, (blk_cell h 2).trans rfl⟩
theorem zdcells {W : World} {g : Nat} (h : W.heap[g]? = some (.cells #[.int .i64 0, .int .i64 0, .bool false, .int .i64 0, .int .i64 0, .int .i64 0, .int .i64 0, .int .i64 0, .bool false, .string ⟨#[]⟩] 36 (0, 0))) : W.cell? ⟨g, 0, none⟩ = some (.int .i64 0) ∧ W.cell? ⟨g, 1, none⟩ = some (.int .i64 0) ∧ W.cell? ⟨g, 2, none⟩ = some (.bool false) ∧ W.cell? ⟨g, 3, none⟩ = some (.int .i64 0) ∧ W.cell? ⟨g, 4, none⟩ = some (.int .i64 0) ∧ W.cell? ⟨g, 5, none⟩ = some (.int .i64 0) ∧ W.cell? ⟨g, 6, none⟩ = some (.int .i64 0) ∧ W.cell? ⟨g, 7, none⟩ = some (.int .i64 0) ∧ W.cell? ⟨g, 8, none⟩ = some (.bool false) ∧ W.cell? ⟨g, 9, none⟩ = some (.string ⟨#[]⟩) :=
 ⟨(blk_cell h 0).trans rfl, (blk_cell h 1).trans rfl, (blk_cell h 2).trans rfl, (blk_cell h 3).trans rfl, (blk_cell h 4).trans rfl, (blk_cell h 5).trans rfl, (blk_cell h 6).trans rfl, (blk_cell h 7).trans rfl, (blk_cell h 8).trans rfl, (blk_cell h 9).trans rfl⟩
theorem blk_new2 (w : World) (o1 o2 : Obj) : ((w.alloc o1).alloc o2).heap[w.heap.size + 1]? = some o2 := by
 have := blk_new (w.alloc o1) o2
 simpa using this
theorem bestStep_in {gone : List Int} {m : List (Int × Fd)} {f : Fd} (h : decide (f.f0 ∈ gone) = true) : bestStep gone m f = m := by unfold bestStep; simp [of_decide_eq_true h]
theorem bestStep_none {gone : List Int} {m : List (Int × Fd)} {f : Fd} (h : getF f.f3.f2 m = none) : bestStep gone m f = if !decide (f.f0 ∈ gone) then putF f.f3.f2 f m else m := by unfold bestStep; simp [h]
theorem bestStep_some {gone : List Int} {m : List (Int × Fd)} {f g : Fd} (h : getF f.f3.f2 m = some g) : bestStep gone m f = if !decide (f.f0 ∈ gone) && aheadLt f g then putF f.f3.f2 f m else m := by unfold bestStep; simp [h]
theorem slice_alloc (W : World) (o : Obj) : Value.slice (some ⟨W.heap.size + 1, 0, none⟩) 1 1 = .slice (some ⟨(W.alloc o).heap.size, 0, none⟩) 1 1 := by simp
theorem vals_split {left : List (Int × Fd)} {l1 l3 : List (Int × Value)} {p : Int × Value} (h : vals left = l1 ++ p :: l3) : ∃ a q d, left = a ++ q :: d ∧ p = (q.1, fval q.2) ∧ l1 ++ l3 = vals (a ++ d) := by
 unfold vals at h ⊢
 obtain ⟨a, c, e0, e1, e2⟩ := List.map_eq_append_iff.1 h
 obtain ⟨q, d, e3, e4, e5⟩ := List.map_eq_cons_iff.1 e2
 exact ⟨a, q, d, by rw [e0, e3], e4.symm, by rw [List.map_append, e1, e5]⟩
theorem R_iter {α : Type} {d : Kd α} {e base : Nat} {W W' : World} {ok : Nat → Prop} {v : Value} {xs : List α} {r b : Nat} {m left : List (Int × Value)} (h : d.R e W base ok v xs) (hi : Mp.Iter W r b m left) (hg : W.grownBy W' (some r)) : d.R e W' base ok v xs := by
 refine Kd.R_mono (Kd.R_grown (Kd.R_bound h) hg (fun k hk => ?_)) (fun k hk => hk.1)
 obtain ⟨_, _, _, q, _, cells, hc⟩ := hk
 intro e
 have e := Option.some.inj e
 obtain ⟨es, clock, seen, hr, _⟩ := hi
 rw [e, hr] at hc
 cases hc
theorem iter_row {α : Type} {d : Kd α} {e base : Nat} {W W' : World} {ok : Nat → Prop} {v : Value} {xs : List α} {r b : Nat} {m left : List (Int × Value)} (hi : Mp.Iter W r b m left) (h : d.R e W base ok v xs) (hg : W.grownBy W' v.ownBlock) : Mp.Iter W' r b m left := by
 refine hi.grown hg ?_ ?_
 ·intro e
  obtain ⟨cells, hc⟩ := Kd.R_typed h _ e.symm
  obtain ⟨es, clock, seen, hr, _⟩ := hi
  rw [hr] at hc
  cases hc
 ·intro e
  obtain ⟨cells, hc⟩ := Kd.R_typed h _ e.symm
  obtain ⟨es, clock, hr, _⟩ := hi.owns
  rw [hr] at hc
  cases hc
theorem spot_step {w2 W w8 : World} {base : Nat} {v v1 : Value} {xs : List Sp} {y : Sp} {n g r b : Nat} {cells : Array Value} {m left : List (Int × Value)} (hn : xs.length = n) (hv : Kd.R k40 40 W base (fun _ => True) v xs) (ho : W.heap[g]? = some (.cells cells 28 (0, 0))) (hi : Mp.Iter W r b m left)
  (h1 : Kd.R k40 40 w8 base (fun _ => True) v1 (xs ++ [y])) (h2 : Below base w2 w8) (h3 : W.grownBy w8 v.ownBlock) :
  ∃ A c, v1 = .slice A (n + 1) c ∧ Kd.R k40 40 w8 base (fun _ => True) (.slice A (n + 1) c) (xs ++ [y]) ∧ Below base w2 w8 ∧ w8.heap[g]? = some (.cells cells 28 (0, 0)) ∧ Mp.Iter w8 r b m left := by
 obtain ⟨A, c, e, _, _⟩ := Kd.R_reads h1
 have hl : (xs ++ [y]).length = n + 1 := by simp [hn]
 rw [hl] at e
 subst e
 exact ⟨A, c, rfl, h1, h2, blk_grown ho h3 (Kd.R_ne hv ho (by decide)), iter_row hi hv h3⟩
theorem spots_one {bs : List (Int × Fd)} (hn : (bs.map (·.1)).Nodup) {ys : List Sp} (h1 : ys.Perm (bs.map spotOf)) (h2 : ys.Pairwise (fun a b => a.f0 ≤ b.f0)) : ys = spotsOf bs := by
 unfold spotsOf
 have hs : ((bs.map spotOf).mergeSort fun x y => decide (x.f0 ≤ y.f0)).Pairwise (fun a b : Sp => a.f0 ≤ b.f0) := by
  have := List.pairwise_mergeSort (le := fun x y : Sp => decide (x.f0 ≤ y.f0)) (by intro a b c h1 h2; simp only [decide_eq_true_eq] at *; omega) (by intro a b; simp only [Bool.or_eq_true, decide_eq_true_eq]; omega) (bs.map spotOf)
  exact this.imp (fun h => by simpa using h)
 refine (h1.trans (List.mergeSort_perm _ _).symm).eq_of_pairwise (le := fun a b : Sp => a.f0 ≤ b.f0) ?_ h2 hs
 intro a b ha hb g1 g2
 have ha' := h1.mem_iff.1 ha
 have hb' := (List.mergeSort_perm _ _).mem_iff.1 hb
 obtain ⟨p, hp, rfl⟩ := List.mem_map.1 ha'
 obtain ⟨q, hq, rfl⟩ := List.mem_map.1 hb'
 have e : p.1 = q.1 := Int.le_antisymm g1 g2
 have : p = q := by
  have key : ∀ l : List (Int × Fd), (l.map (·.1)).Nodup → p ∈ l → q ∈ l → p = q := by
   intro l
   induction l with
   | nil => intro _ h _; cases h
   | cons x l ih =>
    intro hn h1 h2
    rw [List.map_cons, List.nodup_cons] at hn
    have g1 := List.mem_cons.1 h1
    have g2 := List.mem_cons.1 h2
    clear h1 h2
    rcases g1 with g1 | g1 <;> rcases g2 with g2 | g2
    ·rw [g1, g2]
    ·exact absurd (List.mem_map.2 ⟨q, g2, by rw [← e, g1]⟩) hn.1
    ·exact absurd (List.mem_map.2 ⟨p, g1, by rw [e, g2]⟩) hn.1
    ·exact ih hn.2 g1 g2
  exact key bs hn hp hq
 rw [this]
theorem info40 : (Try.prog.info? 40).map (fun i => (i.zero, i.size, i.bytes)) = some (some (.agg #[.int .i64 0, .int .i64 0, .int .i64 0]), 3, 24) := by kernel_rfl
set_option maxHeartbeats 12800000 in
set_option maxRecDepth 100000 in
theorem heal_Heal.calls (A0 : Option Addr) (c0 : Nat) (l0 : List Fd) (a1 a2 a3 a4 : Int) (r_0 : List Sp) (r_1 : List Int) (r_2 : Int) (w : World) (hr0 : Kd.C k36 w A0 l0.length l0) (hc0 : l0.length ≤ c0) (h : heal_Heal.f l0 a1 a2 a3 a4 = some (r_0, r_1, r_2)) :
  Calls Try.prog 8 #[.slice A0 l0.length c0, .int .i64 a1, .int .i64 a2, .int .i64 a3, .int .i64 a4] w fun e w' => ∃ v0_ v1_ : Value, e = .returned (.agg #[v0_, v1_, .int .i64 r_2]) ∧ Kd.R k40 40 w' w.heap.size (fun _ => True) v0_ r_0 ∧ Kd.R (Kd.int .i64) 3 w' w.heap.size (fun _ => True) v1_ r_1 ∧ Below w.heap.size w w' := by
 unfold heal_Heal.f at h
 by_cases hl : l0.length ≤ 1000 ∧ a1 ≤ 64
 ·rw [if_pos hl] at h
  have h := Option.some.inj h
  simp only [Prod.mk.injEq] at h
  obtain ⟨e0, e1, e2⟩ := h
  obtain ⟨hl, hbl⟩ := hl
  have hu := Try.underlying47
  have hu2 := Try.underlying36
  have hu3 := Try.underlying34
  have hu4 := Try.underlying28
  have hu5 := Try.underlying40
  have hmm := @run_makeMap Try.prog
  have HLK := Lib.hid (look_calls A0 c0 l0 a1 a2 a3 a4 (w.alloc (.cells #[.slice none 0 0, .slice none 0 0, .int .i64 0] 28)) (Kd.C_alloc hr0 _) hl)
  unfold bestOf at e0
  unfold goneOf at e0 e1
  have hcl : (countsL a1 a2 a3 a4 l0).length ≤ 1000 := Nat.le_trans (List.length_filter_le _ _) hl
  have hml : (mineL a1 a2 a3 l0).length ≤ 1000 := Nat.le_trans (List.length_filter_le _ _) hl
  obtain ⟨cl, hcl0⟩ : ∃ cl, countsL a1 a2 a3 a4 l0 = cl := ⟨_, rfl⟩
  obtain ⟨ml, hml0⟩ : ∃ ml, mineL a1 a2 a3 l0 = ml := ⟨_, rfl⟩
  rw [hcl0] at e0 e1 HLK hcl
  rw [hml0] at e2 HLK hml
  obtain ⟨go, hgo⟩ : ∃ go, goneL (hasKey (mapOf a1 l0)) cl (max a1 0).toNat 0 [] = go := ⟨_, rfl⟩
  have hgol : go.length ≤ 64 := by
   have := goneL_len (hasKey (mapOf a1 l0)) cl (max a1 0).toNat 0 []
   rw [hgo] at this
   simp at this
   omega
  rw [hgo] at e0 e1
  have HGO := Lib.hid hgo
  obtain ⟨bs, hbs⟩ : ∃ bs, bestL go cl = bs := ⟨_, rfl⟩
  have HBS := Lib.hid hbs
  rw [hbs] at e0
  subst e1
  subst e2
  subst e0
  clear hr0 hml0 hcl0 hgo hbs
  go_enter Try.func8, Try.ntmps8
  go_wp2_with (first
   | (go_at_call 17; refine HLK.out.mono ?_; rintro e w1 ⟨mb, vc, vm, rfl, hm1, hc1, hv1, hb1⟩; have HM1 := Lib.hid hm1; obtain ⟨Am, cm, rfl, hlm, hCm⟩ := Kd.R_reads hv1; obtain ⟨Ac, cc, rfl, hlc, hCc⟩ := Kd.R_reads hc1; have HC1 := Lib.hid hCc; have HL1 := Lib.hid hCm; have HB1 := Lib.hid hb1; clear hm1 hc1 hv1 hb1 hCm hCc)
   | (go_at_call 18; refine (gone_calls a1 mb (mapOf a1 l0) (.slice Am ml.length cm) Ac cc cl _ hbl (HM1.out.alloc _) (mapOf_bool a1 l0) (Kd.C_alloc HC1.out _) rfl).mono ?_; rw [HGO.out]; rintro e w2 ⟨vg, rfl, hg2, hb2⟩; obtain ⟨Ag, cg, rfl, hlg, hCg⟩ := Kd.R_reads hg2; have HG2 := Lib.hid hg2; have HB2 := Lib.hid hb2; have HGC := Lib.hid hCg; have HWd := Lib.hid (blk_below (blk_new w1 (.cells #[.int .i64 a1, .map (some mb), .slice Ac cl.length cc, .slice Am ml.length cm] 47 (0, 0))) hb2); obtain ⟨y0, y1, y2, y3⟩ := wardcells HWd.out; have hz1 : w1.heap.size < w2.heap.size := blk_lt HWd.out; clear hg2 hb2 hCg))
  have hz0 : w.heap.size < w1.heap.size := by have := HB1.out.size; simp at this; omega
  have HC2 := Lib.hid (Kd.C_below (Kd.C_alloc HC1.out _) HB2.out)
  have HL2 := Lib.hid (Kd.C_below (Kd.C_alloc HL1.out _) HB2.out)
  have HRES := Lib.hid (blk_below (blk_alloc (blk_below (blk_new w (.cells #[.slice none 0 0, .slice none 0 0, .int .i64 0] 28 (0, 0))) HB1.out) (.cells #[.int .i64 a1, .map (some mb), .slice Ac cl.length cc, .slice Am ml.length cm] 47 (0, 0))) HB2.out)
  have HBW := Lib.hid (below_then (below_alloc (below_then (below_alloc (Below.refl w.heap.size w) _) (by simp) HB1.out) _) (by simp; omega) HB2.out)
  clear HLK HC1 HL1 HM1
  go_loopw [35] (fun s wr => ∃ k : Nat, s = .int .i64 (k : Int) ∧ k ≤ cl.length ∧ Aside0 (HSt w2 #[.slice none 0 0, .slice Ag go.length cg, .int .i64 0] (vals (bestL go (cl.take k))) wr)) (fun s _ => cl.length - (intOf s).toNat)
  case atStart =>
   refine ⟨0, rfl, by omega, ⟨(((Below.refl w2.heap.size w2).alloc (Nat.le_refl _) _).alloc (by simp) _), ?_, ?_⟩⟩
   ·exact blk_alloc (blk_new w2 _) _
   ·have := Mp.IMap.made (w2.alloc (.cells #[.slice none 0 0, .slice Ag go.length cg, .int .i64 0] 28))
    have h2 : Mp.IMap ((w2.alloc (.cells #[.slice none 0 0, .slice Ag go.length cg, .int .i64 0] 28)).alloc (.map #[] 0)) (w2.heap.size + 1) [] := by simpa using this
    exact h2
  case round =>
   obtain ⟨k, rfl, hk, HS⟩ := hrel
   obtain ⟨wo, rfl⟩ : ∃ wo : World, wo = wr := ⟨_, rfl⟩
   have hz2 : w2.heap.size < wo.heap.size := blk_lt HS.out.2.1
   have hz3 : w2.heap.size + 1 < wo.heap.size := HS.out.2.2.lt
   obtain ⟨p0, p1, p2⟩ := healcells HS.out.2.1
   have HCo := Lib.hid (Kd.C_below HC2.out HS.out.1)
   have HGo := Lib.hid (Kd.C_below HGC.out HS.out.1)
   by_cases hlt : k < cl.length
   ·have hltz : (k : Int) < (cl.length : Int) := by omega
    obtain ⟨b, o, hA, hb, hcs⟩ := fcells HCo.out (by omega)
    subst hA
    obtain ⟨f, hf⟩ : ∃ f, cl[k]! = f := ⟨_, rfl⟩
    have hq : ∀ i v, (encF f)[i]? = some v → wo.cell? ⟨b, o + k * 10 + i, none⟩ = some v := fun i v hi => hcs k hlt i v (by rw [hf]; exact hi)
    have q0 : wo.cell? ⟨b, o + k * 10, none⟩ = some (.int .i64 f.f0) := hq 0 _ rfl
    have q1 := hq 1 _ rfl
    have q2 := hq 2 _ rfl
    have q3 := hq 3 _ rfl
    have q4 := hq 4 _ rfl
    have q5 := hq 5 _ rfl
    have q6 := hq 6 _ rfl
    have q7 := hq 7 _ rfl
    have q8 := hq 8 _ rfl
    have q9 := hq 9 _ rfl
    have eb := bestL_snoc go cl k f hlt hf
    clear hf hq hcs
    cases hin : decide (f.f0 ∈ go) with
    | true =>
     rw [bestStep_in hin] at eb
     have EB := Lib.hid eb
     have HQ := Lib.hid hin
     clear eb hin
     cases hgt : getF f.f3.f2 (bestL go (cl.take k)) with
     | none =>
      have HLKUP := Lib.hid (show (if true = true then Value.tuple #[(Mp.get f.f3.f2 (vals (bestL go (cl.take k)))).getD (.agg #[.int .i64 0, .int .i64 0, .bool false, .int .i64 0, .int .i64 0, .int .i64 0, .int .i64 0, .int .i64 0, .bool false, .string ⟨#[]⟩]), .bool (Mp.get f.f3.f2 (vals (bestL go (cl.take k)))).isSome] else (Mp.get f.f3.f2 (vals (bestL go (cl.take k)))).getD (.agg #[.int .i64 0, .int .i64 0, .bool false, .int .i64 0, .int .i64 0, .int .i64 0, .int .i64 0, .int .i64 0, .bool false, .string ⟨#[]⟩])) = .tuple #[.agg #[.int .i64 0, .int .i64 0, .bool false, .int .i64 0, .int .i64 0, .int .i64 0, .int .i64 0, .int .i64 0, .bool false, .string ⟨#[]⟩], .bool false] by rw [if_pos rfl, get_vals, hgt]; rfl)
      clear hgt
      go_wp2_with (first
       | (at_lookup; refine Mp.wp_lookup_as _ rfl _ _ 50 true rfl 3 36 Try.underlying50 Try.underlying3 zeroFd (w2.heap.size + 1) _ rfl (HS.out.alloc _).2.2 f.f3.f2 rfl _ HLKUP.out ?_)
       | (go_at_call 19; refine (contains_calls Ag cg go f.f0 _ (Kd.C_alloc (Kd.C_alloc HGo.out _) _) hlg).mono ?_; rw [HQ.out]; rintro e w3 ⟨rfl, hd⟩; have hb3 := hd.below; have HS3 := Lib.hid (((HS.out.alloc (.cells #[.int .i64 f.f0, .int .i64 f.f1, .bool f.f2, .int .i64 f.f3.f0, .int .i64 f.f3.f1, .int .i64 f.f3.f2, .int .i64 f.f3.f3, .int .i64 f.f3.f4, .bool f.f3.f5, .string f.f4] 36 (0, 0))).alloc (.cells #[.int .i64 0, .int .i64 0, .bool false, .int .i64 0, .int .i64 0, .int .i64 0, .int .i64 0, .int .i64 0, .bool false, .string ⟨#[]⟩] 36 (0, 0))).below hb3); have HF3 := Lib.hid (blk_below (blk_alloc (blk_new wo (.cells #[.int .i64 f.f0, .int .i64 f.f1, .bool f.f2, .int .i64 f.f3.f0, .int .i64 f.f3.f1, .int .i64 f.f3.f2, .int .i64 f.f3.f3, .int .i64 f.f3.f4, .bool f.f3.f5, .string f.f4] 36 (0, 0))) (.cells #[.int .i64 0, .int .i64 0, .bool false, .int .i64 0, .int .i64 0, .int .i64 0, .int .i64 0, .int .i64 0, .bool false, .string ⟨#[]⟩] 36 (0, 0))) hb3); have HZ3 := Lib.hid (blk_below (blk_new2 wo (.cells #[.int .i64 f.f0, .int .i64 f.f1, .bool f.f2, .int .i64 f.f3.f0, .int .i64 f.f3.f1, .int .i64 f.f3.f2, .int .i64 f.f3.f3, .int .i64 f.f3.f4, .bool f.f3.f5, .string f.f4] 36 (0, 0)) (.cells #[.int .i64 0, .int .i64 0, .bool false, .int .i64 0, .int .i64 0, .int .i64 0, .int .i64 0, .int .i64 0, .bool false, .string ⟨#[]⟩] 36 (0, 0))) hb3); have hz5 : wo.heap.size + 1 < w3.heap.size := blk_lt HZ3.out; obtain ⟨x0, x1, x2, x3, x4, x5, x6, x7, x8, x9⟩ := fdcells HF3.out; obtain ⟨u0, u1, u2, u3, u4, u5, u6, u7, u8, u9⟩ := zdcells HZ3.out; clear hd hb3))
      go_roundw
      case rel => exact ⟨k + 1, by go_num, by omega, ⟨by rw [EB.out]; exact HS3.out⟩⟩
      case measure => simp [intOf]; omega
     | some g =>
      have HLKUP := Lib.hid (show (if true = true then Value.tuple #[(Mp.get f.f3.f2 (vals (bestL go (cl.take k)))).getD (.agg #[.int .i64 0, .int .i64 0, .bool false, .int .i64 0, .int .i64 0, .int .i64 0, .int .i64 0, .int .i64 0, .bool false, .string ⟨#[]⟩]), .bool (Mp.get f.f3.f2 (vals (bestL go (cl.take k)))).isSome] else (Mp.get f.f3.f2 (vals (bestL go (cl.take k)))).getD (.agg #[.int .i64 0, .int .i64 0, .bool false, .int .i64 0, .int .i64 0, .int .i64 0, .int .i64 0, .int .i64 0, .bool false, .string ⟨#[]⟩])) = .tuple #[.agg #[.int .i64 g.f0, .int .i64 g.f1, .bool g.f2, .int .i64 g.f3.f0, .int .i64 g.f3.f1, .int .i64 g.f3.f2, .int .i64 g.f3.f3, .int .i64 g.f3.f4, .bool g.f3.f5, .string g.f4], .bool true] by rw [if_pos rfl, get_vals, hgt]; rfl)
      clear hgt
      go_wp2_with (first
       | (at_lookup; refine Mp.wp_lookup_as _ rfl _ _ 50 true rfl 3 36 Try.underlying50 Try.underlying3 zeroFd (w2.heap.size + 1) _ rfl (HS.out.alloc _).2.2 f.f3.f2 rfl _ HLKUP.out ?_)
       | (go_at_call 19; refine (contains_calls Ag cg go f.f0 _ (Kd.C_alloc (Kd.C_alloc HGo.out _) _) hlg).mono ?_; rw [HQ.out]; rintro e w3 ⟨rfl, hd⟩; have hb3 := hd.below; have HS3 := Lib.hid (((HS.out.alloc (.cells #[.int .i64 f.f0, .int .i64 f.f1, .bool f.f2, .int .i64 f.f3.f0, .int .i64 f.f3.f1, .int .i64 f.f3.f2, .int .i64 f.f3.f3, .int .i64 f.f3.f4, .bool f.f3.f5, .string f.f4] 36 (0, 0))).alloc (.cells #[.int .i64 g.f0, .int .i64 g.f1, .bool g.f2, .int .i64 g.f3.f0, .int .i64 g.f3.f1, .int .i64 g.f3.f2, .int .i64 g.f3.f3, .int .i64 g.f3.f4, .bool g.f3.f5, .string g.f4] 36 (0, 0))).below hb3); have HF3 := Lib.hid (blk_below (blk_alloc (blk_new wo (.cells #[.int .i64 f.f0, .int .i64 f.f1, .bool f.f2, .int .i64 f.f3.f0, .int .i64 f.f3.f1, .int .i64 f.f3.f2, .int .i64 f.f3.f3, .int .i64 f.f3.f4, .bool f.f3.f5, .string f.f4] 36 (0, 0))) (.cells #[.int .i64 g.f0, .int .i64 g.f1, .bool g.f2, .int .i64 g.f3.f0, .int .i64 g.f3.f1, .int .i64 g.f3.f2, .int .i64 g.f3.f3, .int .i64 g.f3.f4, .bool g.f3.f5, .string g.f4] 36 (0, 0))) hb3); have HZ3 := Lib.hid (blk_below (blk_new2 wo (.cells #[.int .i64 f.f0, .int .i64 f.f1, .bool f.f2, .int .i64 f.f3.f0, .int .i64 f.f3.f1, .int .i64 f.f3.f2, .int .i64 f.f3.f3, .int .i64 f.f3.f4, .bool f.f3.f5, .string f.f4] 36 (0, 0)) (.cells #[.int .i64 g.f0, .int .i64 g.f1, .bool g.f2, .int .i64 g.f3.f0, .int .i64 g.f3.f1, .int .i64 g.f3.f2, .int .i64 g.f3.f3, .int .i64 g.f3.f4, .bool g.f3.f5, .string g.f4] 36 (0, 0))) hb3); have hz5 : wo.heap.size + 1 < w3.heap.size := blk_lt HZ3.out; obtain ⟨x0, x1, x2, x3, x4, x5, x6, x7, x8, x9⟩ := fdcells HF3.out; obtain ⟨u0, u1, u2, u3, u4, u5, u6, u7, u8, u9⟩ := fdcells HZ3.out; clear hd hb3))
      go_roundw
      case rel => exact ⟨k + 1, by go_num, by omega, ⟨by rw [EB.out]; exact HS3.out⟩⟩
      case measure => simp [intOf]; omega
    | false =>
     have HQ := Lib.hid hin
     cases hgt : getF f.f3.f2 (bestL go (cl.take k)) with
     | none =>
      rw [bestStep_none hgt, hin] at eb
      simp only [Bool.not_false, if_true] at eb
      have EB := Lib.hid eb
      clear eb hin
      have HLKUP := Lib.hid (show (if true = true then Value.tuple #[(Mp.get f.f3.f2 (vals (bestL go (cl.take k)))).getD (.agg #[.int .i64 0, .int .i64 0, .bool false, .int .i64 0, .int .i64 0, .int .i64 0, .int .i64 0, .int .i64 0, .bool false, .string ⟨#[]⟩]), .bool (Mp.get f.f3.f2 (vals (bestL go (cl.take k)))).isSome] else (Mp.get f.f3.f2 (vals (bestL go (cl.take k)))).getD (.agg #[.int .i64 0, .int .i64 0, .bool false, .int .i64 0, .int .i64 0, .int .i64 0, .int .i64 0, .int .i64 0, .bool false, .string ⟨#[]⟩])) = .tuple #[.agg #[.int .i64 0, .int .i64 0, .bool false, .int .i64 0, .int .i64 0, .int .i64 0, .int .i64 0, .int .i64 0, .bool false, .string ⟨#[]⟩], .bool false] by rw [if_pos rfl, get_vals, hgt]; rfl)
      clear hgt
      go_wp2_with (first
       | (at_lookup; refine Mp.wp_lookup_as _ rfl _ _ 50 true rfl 3 36 Try.underlying50 Try.underlying3 zeroFd (w2.heap.size + 1) _ rfl (HS.out.alloc _).2.2 f.f3.f2 rfl _ HLKUP.out ?_)
       | (go_at_call 19; refine (contains_calls Ag cg go f.f0 _ (Kd.C_alloc (Kd.C_alloc HGo.out _) _) hlg).mono ?_; rw [HQ.out]; rintro e w3 ⟨rfl, hd⟩; have hb3 := hd.below; have HS3 := Lib.hid (((HS.out.alloc (.cells #[.int .i64 f.f0, .int .i64 f.f1, .bool f.f2, .int .i64 f.f3.f0, .int .i64 f.f3.f1, .int .i64 f.f3.f2, .int .i64 f.f3.f3, .int .i64 f.f3.f4, .bool f.f3.f5, .string f.f4] 36 (0, 0))).alloc (.cells #[.int .i64 0, .int .i64 0, .bool false, .int .i64 0, .int .i64 0, .int .i64 0, .int .i64 0, .int .i64 0, .bool false, .string ⟨#[]⟩] 36 (0, 0))).below hb3); have HF3 := Lib.hid (blk_below (blk_alloc (blk_new wo (.cells #[.int .i64 f.f0, .int .i64 f.f1, .bool f.f2, .int .i64 f.f3.f0, .int .i64 f.f3.f1, .int .i64 f.f3.f2, .int .i64 f.f3.f3, .int .i64 f.f3.f4, .bool f.f3.f5, .string f.f4] 36 (0, 0))) (.cells #[.int .i64 0, .int .i64 0, .bool false, .int .i64 0, .int .i64 0, .int .i64 0, .int .i64 0, .int .i64 0, .bool false, .string ⟨#[]⟩] 36 (0, 0))) hb3); have HZ3 := Lib.hid (blk_below (blk_new2 wo (.cells #[.int .i64 f.f0, .int .i64 f.f1, .bool f.f2, .int .i64 f.f3.f0, .int .i64 f.f3.f1, .int .i64 f.f3.f2, .int .i64 f.f3.f3, .int .i64 f.f3.f4, .bool f.f3.f5, .string f.f4] 36 (0, 0)) (.cells #[.int .i64 0, .int .i64 0, .bool false, .int .i64 0, .int .i64 0, .int .i64 0, .int .i64 0, .int .i64 0, .bool false, .string ⟨#[]⟩] 36 (0, 0))) hb3); have hz5 : wo.heap.size + 1 < w3.heap.size := blk_lt HZ3.out; obtain ⟨x0, x1, x2, x3, x4, x5, x6, x7, x8, x9⟩ := fdcells HF3.out; obtain ⟨u0, u1, u2, u3, u4, u5, u6, u7, u8, u9⟩ := zdcells HZ3.out; clear hd hb3)
       | (at_mapUpdate; refine Mp.wp_update _ rfl _ _ _ 50 rfl 3 36 Try.underlying50 Try.underlying3 (w2.heap.size + 1) _ rfl HS3.out.2.2 f.f3.f2 rfl (.agg #[.int .i64 f.f0, .int .i64 f.f1, .bool f.f2, .int .i64 f.f3.f0, .int .i64 f.f3.f1, .int .i64 f.f3.f2, .int .i64 f.f3.f3, .int .i64 f.f3.f4, .bool f.f3.f5, .string f.f4]) rfl ?_; intro w5 hm5 hg5 hs5; have HS5 := Lib.hid (HS3.out.map hm5 hg5); clear hm5 hg5 hs5))
      go_roundw
      case rel => exact ⟨k + 1, by go_num, by omega, ⟨by rw [EB.out, ← put_vals]; exact HS5.out⟩⟩
      case measure => simp [intOf]; omega
     | some g =>
      rw [bestStep_some hgt, hin] at eb
      clear hin
      have HLKUP := Lib.hid (show (if true = true then Value.tuple #[(Mp.get f.f3.f2 (vals (bestL go (cl.take k)))).getD (.agg #[.int .i64 0, .int .i64 0, .bool false, .int .i64 0, .int .i64 0, .int .i64 0, .int .i64 0, .int .i64 0, .bool false, .string ⟨#[]⟩]), .bool (Mp.get f.f3.f2 (vals (bestL go (cl.take k)))).isSome] else (Mp.get f.f3.f2 (vals (bestL go (cl.take k)))).getD (.agg #[.int .i64 0, .int .i64 0, .bool false, .int .i64 0, .int .i64 0, .int .i64 0, .int .i64 0, .int .i64 0, .bool false, .string ⟨#[]⟩])) = .tuple #[.agg #[.int .i64 g.f0, .int .i64 g.f1, .bool g.f2, .int .i64 g.f3.f0, .int .i64 g.f3.f1, .int .i64 g.f3.f2, .int .i64 g.f3.f3, .int .i64 g.f3.f4, .bool g.f3.f5, .string g.f4], .bool true] by rw [if_pos rfl, get_vals, hgt]; rfl)
      clear hgt
      obtain ⟨r, hah, hrn⟩ := ahead_ok f g
      have HAH := Lib.hid hah
      clear hah
      cases hal : aheadLt f g with
      | true =>
       rw [hal] at eb hrn
       simp only [Bool.not_false, Bool.and_self, if_true] at eb
       have EB := Lib.hid eb
       have hr9 : r < 0 := of_decide_eq_true hrn
       clear eb hrn hal
       go_wp2_with (first
        | (at_lookup; refine Mp.wp_lookup_as _ rfl _ _ 50 true rfl 3 36 Try.underlying50 Try.underlying3 zeroFd (w2.heap.size + 1) _ rfl (HS.out.alloc _).2.2 f.f3.f2 rfl _ HLKUP.out ?_)
        | (go_at_call 19; refine (contains_calls Ag cg go f.f0 _ (Kd.C_alloc (Kd.C_alloc HGo.out _) _) hlg).mono ?_; rw [HQ.out]; rintro e w3 ⟨rfl, hd⟩; have hb3 := hd.below; have HS3 := Lib.hid (((HS.out.alloc (.cells #[.int .i64 f.f0, .int .i64 f.f1, .bool f.f2, .int .i64 f.f3.f0, .int .i64 f.f3.f1, .int .i64 f.f3.f2, .int .i64 f.f3.f3, .int .i64 f.f3.f4, .bool f.f3.f5, .string f.f4] 36 (0, 0))).alloc (.cells #[.int .i64 g.f0, .int .i64 g.f1, .bool g.f2, .int .i64 g.f3.f0, .int .i64 g.f3.f1, .int .i64 g.f3.f2, .int .i64 g.f3.f3, .int .i64 g.f3.f4, .bool g.f3.f5, .string g.f4] 36 (0, 0))).below hb3); have HF3 := Lib.hid (blk_below (blk_alloc (blk_new wo (.cells #[.int .i64 f.f0, .int .i64 f.f1, .bool f.f2, .int .i64 f.f3.f0, .int .i64 f.f3.f1, .int .i64 f.f3.f2, .int .i64 f.f3.f3, .int .i64 f.f3.f4, .bool f.f3.f5, .string f.f4] 36 (0, 0))) (.cells #[.int .i64 g.f0, .int .i64 g.f1, .bool g.f2, .int .i64 g.f3.f0, .int .i64 g.f3.f1, .int .i64 g.f3.f2, .int .i64 g.f3.f3, .int .i64 g.f3.f4, .bool g.f3.f5, .string g.f4] 36 (0, 0))) hb3); have HZ3 := Lib.hid (blk_below (blk_new2 wo (.cells #[.int .i64 f.f0, .int .i64 f.f1, .bool f.f2, .int .i64 f.f3.f0, .int .i64 f.f3.f1, .int .i64 f.f3.f2, .int .i64 f.f3.f3, .int .i64 f.f3.f4, .bool f.f3.f5, .string f.f4] 36 (0, 0)) (.cells #[.int .i64 g.f0, .int .i64 g.f1, .bool g.f2, .int .i64 g.f3.f0, .int .i64 g.f3.f1, .int .i64 g.f3.f2, .int .i64 g.f3.f3, .int .i64 g.f3.f4, .bool g.f3.f5, .string g.f4] 36 (0, 0))) hb3); have hz5 : wo.heap.size + 1 < w3.heap.size := blk_lt HZ3.out; obtain ⟨x0, x1, x2, x3, x4, x5, x6, x7, x8, x9⟩ := fdcells HF3.out; obtain ⟨u0, u1, u2, u3, u4, u5, u6, u7, u8, u9⟩ := fdcells HZ3.out; clear hd hb3)
        | (go_at_call 20; refine (heal_ahead.calls 3 f.f0 f.f1 f.f2 f.f3.f0 f.f3.f1 f.f3.f2 f.f3.f3 f.f3.f4 f.f3.f5 f.f4 g.f0 g.f1 g.f2 g.f3.f0 g.f3.f1 g.f3.f2 g.f3.f3 g.f3.f4 g.f3.f5 g.f4 r _ HAH.out).mono ?_; rintro e w4 ⟨rfl, hb4⟩; have HS4 := Lib.hid (HS3.out.below hb4); have HF4 := Lib.hid (blk_below HF3.out hb4); have hz6 : wo.heap.size < w4.heap.size := blk_lt HF4.out; obtain ⟨s0, s1, s2, s3, s4, s5, s6, s7, s8, s9⟩ := fdcells HF4.out; clear hb4)
        | (at_mapUpdate; refine Mp.wp_update _ rfl _ _ _ 50 rfl 3 36 Try.underlying50 Try.underlying3 (w2.heap.size + 1) _ rfl HS4.out.2.2 f.f3.f2 rfl (.agg #[.int .i64 f.f0, .int .i64 f.f1, .bool f.f2, .int .i64 f.f3.f0, .int .i64 f.f3.f1, .int .i64 f.f3.f2, .int .i64 f.f3.f3, .int .i64 f.f3.f4, .bool f.f3.f5, .string f.f4]) rfl ?_; intro w5 hm5 hg5 hs5; have HS5 := Lib.hid (HS4.out.map hm5 hg5); clear hm5 hg5 hs5))
       go_roundw
       case rel => exact ⟨k + 1, by go_num, by omega, ⟨by rw [EB.out, ← put_vals]; exact HS5.out⟩⟩
       case measure => simp [intOf]; omega
      | false =>
       rw [hal] at eb hrn
       simp only [Bool.not_false, Bool.and_false, Bool.false_eq_true, if_false] at eb
       have EB := Lib.hid eb
       have hr9 : ¬ r < 0 := of_decide_eq_false hrn
       clear eb hrn hal
       go_wp2_with (first
        | (at_lookup; refine Mp.wp_lookup_as _ rfl _ _ 50 true rfl 3 36 Try.underlying50 Try.underlying3 zeroFd (w2.heap.size + 1) _ rfl (HS.out.alloc _).2.2 f.f3.f2 rfl _ HLKUP.out ?_)
        | (go_at_call 19; refine (contains_calls Ag cg go f.f0 _ (Kd.C_alloc (Kd.C_alloc HGo.out _) _) hlg).mono ?_; rw [HQ.out]; rintro e w3 ⟨rfl, hd⟩; have hb3 := hd.below; have HS3 := Lib.hid (((HS.out.alloc (.cells #[.int .i64 f.f0, .int .i64 f.f1, .bool f.f2, .int .i64 f.f3.f0, .int .i64 f.f3.f1, .int .i64 f.f3.f2, .int .i64 f.f3.f3, .int .i64 f.f3.f4, .bool f.f3.f5, .string f.f4] 36 (0, 0))).alloc (.cells #[.int .i64 g.f0, .int .i64 g.f1, .bool g.f2, .int .i64 g.f3.f0, .int .i64 g.f3.f1, .int .i64 g.f3.f2, .int .i64 g.f3.f3, .int .i64 g.f3.f4, .bool g.f3.f5, .string g.f4] 36 (0, 0))).below hb3); have HF3 := Lib.hid (blk_below (blk_alloc (blk_new wo (.cells #[.int .i64 f.f0, .int .i64 f.f1, .bool f.f2, .int .i64 f.f3.f0, .int .i64 f.f3.f1, .int .i64 f.f3.f2, .int .i64 f.f3.f3, .int .i64 f.f3.f4, .bool f.f3.f5, .string f.f4] 36 (0, 0))) (.cells #[.int .i64 g.f0, .int .i64 g.f1, .bool g.f2, .int .i64 g.f3.f0, .int .i64 g.f3.f1, .int .i64 g.f3.f2, .int .i64 g.f3.f3, .int .i64 g.f3.f4, .bool g.f3.f5, .string g.f4] 36 (0, 0))) hb3); have HZ3 := Lib.hid (blk_below (blk_new2 wo (.cells #[.int .i64 f.f0, .int .i64 f.f1, .bool f.f2, .int .i64 f.f3.f0, .int .i64 f.f3.f1, .int .i64 f.f3.f2, .int .i64 f.f3.f3, .int .i64 f.f3.f4, .bool f.f3.f5, .string f.f4] 36 (0, 0)) (.cells #[.int .i64 g.f0, .int .i64 g.f1, .bool g.f2, .int .i64 g.f3.f0, .int .i64 g.f3.f1, .int .i64 g.f3.f2, .int .i64 g.f3.f3, .int .i64 g.f3.f4, .bool g.f3.f5, .string g.f4] 36 (0, 0))) hb3); have hz5 : wo.heap.size + 1 < w3.heap.size := blk_lt HZ3.out; obtain ⟨x0, x1, x2, x3, x4, x5, x6, x7, x8, x9⟩ := fdcells HF3.out; obtain ⟨u0, u1, u2, u3, u4, u5, u6, u7, u8, u9⟩ := fdcells HZ3.out; clear hd hb3)
        | (go_at_call 20; refine (heal_ahead.calls 3 f.f0 f.f1 f.f2 f.f3.f0 f.f3.f1 f.f3.f2 f.f3.f3 f.f3.f4 f.f3.f5 f.f4 g.f0 g.f1 g.f2 g.f3.f0 g.f3.f1 g.f3.f2 g.f3.f3 g.f3.f4 g.f3.f5 g.f4 r _ HAH.out).mono ?_; rintro e w4 ⟨rfl, hb4⟩; have HS4 := Lib.hid (HS3.out.below hb4); have HF4 := Lib.hid (blk_below HF3.out hb4); have hz6 : wo.heap.size < w4.heap.size := blk_lt HF4.out; obtain ⟨s0, s1, s2, s3, s4, s5, s6, s7, s8, s9⟩ := fdcells HF4.out; clear hb4))
       go_roundw
       case rel => exact ⟨k + 1, by go_num, by omega, ⟨by rw [EB.out]; exact HS4.out⟩⟩
       case measure => simp [intOf]; omega
   ·have hltz : ¬ (k : Int) < (cl.length : Int) := by omega
    have e : k = cl.length := by omega
    subst e
    rw [List.take_length] at HS
    have hbn := HS.out.2.2.nodup
    have hbsl := bestL_len go cl
    rw [HBS.out] at HS hbn hbsl
    have HBN := Lib.hid (show (bs.map (·.1)).Nodup by unfold vals at hbn; rw [List.map_map] at hbn; exact hbn)
    clear hbn HCo HC2
    go_wp2_with (at_range; refine Mp.wp_range _ rfl _ 50 rfl 3 36 Try.underlying50 (w2.heap.size + 1) _ rfl HS.out.2.2 ?_; intro w6 hi6 hg6 hs6; have HI6 := Lib.hid hi6; have HB6 := Lib.hid (HS.out.1.grown hg6 HS.out.1.size (fun _ h => by cases h)); have HO6 := Lib.hid (blk_grown HS.out.2.1 hg6 (by simp)); clear hi6 hg6 hs6)
    go_loopg [18] bs.length (fun gg s18 wr => ∃ (left done_ : List (Int × Fd)) (vs : Value), left.length ≤ gg ∧ Aside0 ((done_ ++ left).Perm bs) ∧ Aside0 (Below w2.heap.size w2 wr) ∧ Aside0 (wr.heap[w2.heap.size]? = some (.cells #[vs, (.slice Ag go.length cg), .int .i64 0] 28 (0, 0)))
     ∧ Aside0 (Mp.Iter wr wo.heap.size (w2.heap.size + 1) (vals bs) (vals left)) ∧ Aside0 (Kd.R k40 40 wr w2.heap.size (fun _ => True) vs (done_.map spotOf)))
    case atStart => exact ⟨bs, [], .slice none 0 0, Nat.le_refl _, ⟨List.Perm.refl _⟩, ⟨HB6.out⟩, ⟨HO6.out⟩, ⟨HI6.out⟩, ⟨Kd.R_nil _ _ _ _ _⟩⟩
    case round =>
     obtain ⟨left, done_, vs, hgg, HP, HB7, HO7, HI7, HV7⟩ := hrel
     obtain ⟨wn, rfl⟩ : ∃ wn : World, wn = wr := ⟨_, rfl⟩
     obtain ⟨As, cs, rfl, hls, hCs⟩ := Kd.R_reads HV7.out
     clear hCs
     rw [List.length_map] at HO7 HV7 hls
     have hdl : done_.length ≤ 1000 := by have := HP.out.length_eq; simp at this; omega
     cases left with
     | cons x xs =>
      go_wp2_with (first
       | (at_next; refine Mp.wp_next _ rfl _ rfl wo.heap.size (w2.heap.size + 1) (vals bs) (vals (x :: xs)) rfl HI7.out (fun h => by simp [vals] at h) ?_; intro p l1 l3 w7 hsplit hi8 hg8 hs8 hen8; obtain ⟨qa, q, qd, hq1, rfl, hq3⟩ := vals_split hsplit; rw [hq3] at hi8; have HP8 := Lib.hid hq1; have HI8 := Lib.hid hi8; have HB8 := Lib.hid (HB7.out.grown hg8 HB7.out.size (fun k hk => by have := Option.some.inj hk; omega)); have HO8 := Lib.hid (blk_grown HO7.out hg8 (fun e => by have := Option.some.inj e; omega)); have HV8 := Lib.hid (R_iter HV7.out HI7.out hg8); have hz8 : w2.heap.size < w7.heap.size := blk_lt HO8.out; have hen9 : (Instr.entry (.pointer (some ⟨wo.heap.size, 0, none⟩))).run Try.prog w7 = .ok (.tuple #[.int .i64 q.1, .agg #[.int .i64 q.2.f0, .int .i64 q.2.f1, .bool q.2.f2, .int .i64 q.2.f3.f0, .int .i64 q.2.f3.f1, .int .i64 q.2.f3.f2, .int .i64 q.2.f3.f3, .int .i64 q.2.f3.f4, .bool q.2.f3.f5, .string q.2.f4]]) w7 := hen8; obtain ⟨z0, z1, z2⟩ := healcells HO8.out; clear hsplit hq1 hq3 hi8 hg8 hs8 hen8)
       | (at_builtin; refine Kd.R_append k40 (w0 := w2) (W := w7.alloc (.cells #[.int .i64 q.2.f0, .int .i64 q.2.f1, .bool q.2.f2, .int .i64 q.2.f3.f0, .int .i64 q.2.f3.f1, .int .i64 q.2.f3.f2, .int .i64 q.2.f3.f3, .int .i64 q.2.f3.f4, .bool q.2.f3.f5, .string q.2.f4] 36)) w2.heap.size rfl (.tmp 77) (.tmp 84) 25 40 (.agg #[.int .i64 0, .int .i64 0, .int .i64 0]) 24 rfl Try.underlying25 info40 rfl (by decide) (by omega) (.slice As done_.length cs) (done_.map spotOf) (spotOf q) [.int .i64 q.1, .int .i64 q.2.f0, .int .i64 q.2.f1] (fun _ => True) (fun _ => False) rfl (slice_alloc w7 _) (k40_mkM _ _ _ (spotOf q)) (fun _ hk => hk.elim) (fun _ _ => trivial) (Kd.R_alloc HV8.out _) (below_alloc HB8.out _) (below_alloc HB8.out _).size (by rw [List.length_map]; omega) ?_; intro v1 w8 ho1 hb1 hg1 hat1; obtain ⟨A9, c9, rfl, hs1, hs2, hs3, hs4⟩ := spot_step (n := done_.length) (List.length_map _) (Kd.R_alloc HV8.out _) (blk_alloc HO8.out _) (HI8.out.alloc _) ho1 hb1 hg1; have HV9 := Lib.hid hs1; have HB9 := Lib.hid hs2; have HO9 := Lib.hid hs3; have HI9 := Lib.hid hs4; obtain ⟨m0, m1, m2⟩ := healcells hs3; have m3 := blk_frozen hs3 0; clear hs1 hs2 hs3 hs4 ho1 hb1 hg1 hat1))
      have HO10 := Lib.hid (blk_set HO9.out 0 (.slice A9 (done_.length + 1) c9))
      have HV10 := Lib.hid (Kd.R_set HV9.out HO9.out (by decide) 0 (.slice A9 (done_.length + 1) c9))
      have HI10 := Lib.hid (HI9.out.setCell (a := ⟨w2.heap.size, 0, none⟩) (by show wo.heap.size ≠ w2.heap.size; omega) (by show w2.heap.size + 1 ≠ w2.heap.size; omega) (.slice A9 (done_.length + 1) c9))
      have HB10 := Lib.hid (HB9.out.setCell (p := ⟨w2.heap.size, 0, none⟩) (Nat.le_refl _) (.slice A9 (done_.length + 1) c9))
      go_roundg (qa ++ qd).length
      case measure => have := congrArg List.length HP8.out; simp at this hgg ⊢; omega
      case rel => exact ⟨qa ++ qd, done_ ++ [q], _, Nat.le_refl _, ⟨by rw [List.append_assoc]; refine List.Perm.trans ?_ HP.out; rw [HP8.out]; exact List.Perm.append_left _ (by simpa using (List.perm_middle (a := q) (l₁ := qa) (l₂ := qd)).symm)⟩, ⟨HB10.out⟩, ⟨HO10.out⟩, ⟨HI10.out⟩, ⟨by rw [List.map_append]; exact HV10.out⟩⟩
     | nil =>
      obtain ⟨z0, z1, z2⟩ := healcells HO7.out
      have hz9 : w2.heap.size < wn.heap.size := blk_lt HO7.out
      go_wp2_with (first
       | (at_next; refine Mp.wp_next _ rfl _ rfl wo.heap.size (w2.heap.size + 1) (vals bs) (vals []) rfl HI7.out (fun _ => ?_) (fun p l1 l3 w' h => by simp [vals] at h))
       | (go_at_call 21; refine (sortS_calls HB7.out HV7.out (by rw [List.length_map]; omega)).mono ?_; rintro e w8 ⟨rfl, ys, hp8, hs8, hv8, hb8, hg8⟩; have HYS := Lib.hid (spots_one HBN.out (hp8.trans ((by simpa using HP.out : done_.Perm bs).map spotOf)) hs8); have hyl := hp8.length_eq; rw [List.length_map] at hyl; have HV8 := Lib.hid hv8; have HB8 := Lib.hid hb8; have HO8 := Lib.hid (blk_grown HO7.out hg8 (Kd.R_ne HV7.out HO7.out (by decide))); obtain ⟨x0, x1, x2⟩ := healcells HO8.out; have HW8 := Lib.hid (blk_below HWd.out hb8); obtain ⟨v0, v1, v2, v3⟩ := wardcells HW8.out; clear hp8 hs8 hv8 hb8 hg8))
      go_loopw [93] (fun s wr => ∃ k : Nat, s = .int .i64 (k : Int) ∧ k ≤ ml.length ∧ Aside0 (Below w2.heap.size w2 wr) ∧ Aside0 (wr.heap[w2.heap.size]? = some (.cells #[.slice As done_.length cs, (.slice Ag go.length cg), .int .i64 (seqL (ml.take k))] 28 (0, 0))) ∧ Aside0 (Kd.R k40 40 wr w2.heap.size (fun _ => True) (.slice As done_.length cs) ys))
       (fun s _ => ml.length - (intOf s).toNat)
      case atStart => exact ⟨0, rfl, by omega, ⟨HB8.out⟩, ⟨HO8.out⟩, ⟨HV8.out⟩⟩
      case round =>
       obtain ⟨k, rfl, hk, HB9, HO9, HV9⟩ := hrel
       obtain ⟨wq, rfl⟩ : ∃ wq : World, wq = wr := ⟨_, rfl⟩
       have hz10 : w2.heap.size < wq.heap.size := blk_lt HO9.out
       obtain ⟨m0, m1, m2⟩ := healcells HO9.out
       have fm0 := blk_frozen HO9.out 2
       by_cases hlt : k < ml.length
       ·have hltz : (k : Int) < (ml.length : Int) := by omega
        obtain ⟨b, o, hA, hb, hcs⟩ := fcells (Kd.C_below HL2.out HB9.out) (by omega)
        subst hA
        obtain ⟨f, hf⟩ : ∃ f, ml[k]! = f := ⟨_, rfl⟩
        have hq : ∀ i v, (encF f)[i]? = some v → wq.cell? ⟨b, o + k * 10 + i, none⟩ = some v := fun i v hi => hcs k hlt i v (by rw [hf]; exact hi)
        have q0 : wq.cell? ⟨b, o + k * 10, none⟩ = some (.int .i64 f.f0) := hq 0 _ rfl
        have q1 := hq 1 _ rfl
        have q2 := hq 2 _ rfl
        have q3 := hq 3 _ rfl
        have q4 := hq 4 _ rfl
        have q5 := hq 5 _ rfl
        have q6 := hq 6 _ rfl
        have q7 := hq 7 _ rfl
        have q8 := hq 8 _ rfl
        have q9 := hq 9 _ rfl
        have ES := Lib.hid (seqL_snoc ml k f hlt hf)
        clear hf hq hcs
        go_wp2
        go_roundw
        case rel => exact ⟨k + 1, by go_num, by omega, ⟨(HB9.out.setCell (p := ⟨w2.heap.size, 2, none⟩) (Nat.le_refl _) _).alloc (HB9.out.setCell (p := ⟨w2.heap.size, 2, none⟩) (Nat.le_refl _) _).size _⟩, ⟨by rw [ES.out]; exact blk_alloc (blk_set HO9.out 2 _) _⟩, ⟨Kd.R_alloc (Kd.R_set HV9.out HO9.out (by decide) 2 _) _⟩⟩
        case measure => simp [intOf]; omega
       ·have hltz : ¬ (k : Int) < (ml.length : Int) := by omega
        have e : k = ml.length := by omega
        subst e
        rw [List.take_length] at HO9
        obtain ⟨m0, m1, m2⟩ := healcells HO9.out
        have HRQ := Lib.hid (blk_below HRES.out HB9.out)
        obtain ⟨n0, n1, n2⟩ := healcells HRQ.out
        have n3 := blk_frozen HRQ.out 0
        have n4 := blk_frozen HRQ.out 1
        have n5 := blk_frozen HRQ.out 2
        have hzz : w.heap.size < w2.heap.size := by omega
        go_wp2
        have g2 := HRQ.out
        have b1 := blk_set (blk_set (blk_set g2 0 (.slice As done_.length cs)) 1 (.slice Ag go.length cg)) 2 (.int .i64 (seqL ml))
        have vs := HV9.out
        rw [HYS.out] at vs
        refine bodyPost_ret (results_cell_row rfl _ _ w.heap.size 28 #[.slice As done_.length cs, .slice Ag go.length cg, .int .i64 (seqL ml)] (0, 0) _ rfl b1 hu4 rfl (by kernel_rfl)) rfl ?_
        refine ⟨_, _, rfl, ?_, ?_, ?_⟩
        ·exact Kd.R_lower (Kd.R_set (Kd.R_set (Kd.R_set vs g2 (by decide) 0 _) (blk_set g2 0 _) (by decide) 1 _) (blk_set (blk_set g2 0 _) 1 _) (by decide) 2 _) HBW.out.size
        ·exact Kd.R_lower (Kd.R_set (Kd.R_set (Kd.R_set (Kd.R_below HG2.out HB9.out) g2 (by decide) 0 _) (blk_set g2 0 _) (by decide) 1 _) (blk_set (blk_set g2 0 _) 1 _) (by decide) 2 _) (by simp; omega)
        ·exact ((((below_then HBW.out HBW.out.size HB9.out).setCell (p := ⟨w.heap.size, 0, none⟩) (Nat.le_refl _) _).setCell (p := ⟨w.heap.size, 1, none⟩) (Nat.le_refl _) _).setCell (p := ⟨w.heap.size, 2, none⟩) (Nat.le_refl _) _)
 ·rw [if_neg hl] at h
  cases h
end Go.Proofs.Ytdmbibjgiehboaa.X
