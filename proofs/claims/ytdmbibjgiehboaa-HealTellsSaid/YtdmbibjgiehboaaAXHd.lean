-- Cut by a program of this session (wip/pr/pack.py) to what one claim needs.
import Derived.Test.YtdmbibjgiehboaaAXHc
import Derived.Test.YtdmbibjgiehboaaAPx22
namespace Go.Proofs.Ytdmbibjgiehboaa.X
open Go.RowKit Go.Shelf Go.Lib Go.Sort Go.Proofs.YtdmbibjgiehboaaW.PrintWords Go.Proofs.YtdmbibjgiehboaaW.PrintLast Go.Proofs.YtdmbibjgiehboaaW.PrintMore Go.Proofs.Ytdmbibjgiehboaa.P
set_option linter.unusedVariables false
set_option linter.unusedSimpArgs false
def LSt (w0 : World) (R0 Bw mb : Nat) (a1 : Int) (vc vm : Value) (m : List (Int × Value)) (cs ms : List Fd) (W : World) : Prop :=
 Below w0.heap.size w0 W ∧ W.heap[R0]? = some (.cells #[.int .i64 0, .map none, .slice none 0 0, .slice none 0 0] 47 (0, 0)) ∧ W.heap[Bw]? = some (.cells #[.int .i64 a1, .map (some mb), vc, vm] 47 (0, 0)) ∧ Mp.IMap W mb m
  ∧ Kd.R k36 36 W w0.heap.size (fun k => True ∧ some k ≠ vm.ownBlock) vc cs ∧ Kd.R k36 36 W w0.heap.size (fun k => True ∧ some k ≠ vc.ownBlock) vm ms ∧ R0 ≠ Bw ∧ w0.heap.size ≤ Bw
section
variable {w0 : World} {R0 Bw mb : Nat} {a1 : Int} {vc vm : Value} {m : List (Int × Value)} {cs ms : List Fd} {W : World}
theorem LSt.below (h : LSt w0 R0 Bw mb a1 vc vm m cs ms W) {W' : World} (hb : Below W.heap.size W W') : LSt w0 R0 Bw mb a1 vc vm m cs ms W' := by
 obtain ⟨h1, h2, h3, h4, h5, h6, h7, h8⟩ := h
 exact ⟨below_then h1 h1.size hb, blk_below h2 hb, blk_below h3 hb, h4.below hb, Kd.R_below h5 hb, Kd.R_below h6 hb, h7, h8⟩
theorem LSt.alloc (h : LSt w0 R0 Bw mb a1 vc vm m cs ms W) (o : Obj) : LSt w0 R0 Bw mb a1 vc vm m cs ms (W.alloc o) := h.below (below_alloc (Below.refl _ _) o)
theorem map_ne {W : World} {b g : Nat} {m : List (Int × Value)} (h : Mp.IMap W b m) {cs : Array Value} {t : Nat} (hg : W.heap[g]? = some (.cells cs t (0, 0))) : g ≠ b := by
 obtain ⟨es, clock, hb, _⟩ := h
 rintro rfl
 rw [hg] at hb
 cases hb
theorem LSt.map (h : LSt w0 R0 Bw mb a1 vc vm m cs ms W) {W' : World} {m' : List (Int × Value)} (hm : Mp.IMap W' mb m') (hg : W.grownBy W' (some mb)) (hmb : w0.heap.size ≤ mb) : LSt w0 R0 Bw mb a1 vc vm m' cs ms W' := by
 obtain ⟨h1, h2, h3, h4, h5, h6, h7, h8⟩ := h
 have e2 := map_ne h4 h2
 have e3 := map_ne h4 h3
 have nr : ∀ {v : Value} {ok : Nat → Prop} {l : List Fd}, Kd.R k36 36 W w0.heap.size ok v l → Kd.R k36 36 W' w0.heap.size ok v l := by
  intro v ok l hr
  have hb := Kd.R_bound hr
  refine Kd.R_mono (Kd.R_grown hb hg (fun k hk => ?_)) (fun k hk => hk.1)
  obtain ⟨_, _, _, q, _, cells, hc⟩ := hk
  intro e
  exact map_ne h4 hc (Option.some.inj e)
 exact ⟨h1.grown hg h1.size (fun k hk => by cases hk; exact hmb), blk_grown h2 hg (fun e => e2 (Option.some.inj e)), blk_grown h3 hg (fun e => e3 (Option.some.inj e)), hm, nr h5, nr h6, h7, h8⟩
theorem LSt.mine (h : LSt w0 R0 Bw mb a1 vc vm m cs ms W) {v1 : Value} {w1 : World} {ms' : List Fd} (ho : Kd.R k36 36 w1 w0.heap.size (fun k => True ∧ some k ≠ vc.ownBlock) v1 ms') (hb : Below w0.heap.size w0 w1) (hg : W.grownBy w1 vm.ownBlock)
  (hat : v1.ownBlock = vm.ownBlock ∨ ∃ b, v1.ownBlock = some b ∧ W.heap.size ≤ b) :
  w1.heap[Bw]? = some (.cells #[.int .i64 a1, .map (some mb), vc, vm] 47 (0, 0)) ∧ LSt w0 R0 Bw mb a1 vc v1 m cs ms' (w1.setCell ⟨Bw, 3, none⟩ v1) := by
 obtain ⟨h1, h2, h3, h4, h5, h6, h7, h8⟩ := h
 have n2 := Kd.R_ne h6 h2 (by decide)
 have n3 := Kd.R_ne h6 h3 (by decide)
 have b2 := blk_grown h2 hg n2
 have b3 := blk_grown h3 hg n3
 have e3 := map_ne h4 h3
 have nm : some mb ≠ vm.ownBlock := by
  intro e
  obtain ⟨cells, hc⟩ := Kd.R_typed h6 mb e.symm
  exact map_ne h4 hc rfl
 have h5' := Kd.R_after h5 hg hat
 refine ⟨b3, hb.setCell (p := ⟨Bw, 3, none⟩) h8 v1, blk_far b2 (p := ⟨Bw, 3, none⟩) h7 v1, blk_set b3 3 v1, (h4.grown hg nm).setCell (a := ⟨Bw, 3, none⟩) (fun e => e3 e.symm) v1, Kd.R_set h5' b3 (by decide) 3 v1, Kd.R_set ho b3 (by decide) 3 v1, h7, h8⟩
theorem LSt.counts (h : LSt w0 R0 Bw mb a1 vc vm m cs ms W) {v1 : Value} {w1 : World} {cs' : List Fd} (ho : Kd.R k36 36 w1 w0.heap.size (fun k => True ∧ some k ≠ vm.ownBlock) v1 cs') (hb : Below w0.heap.size w0 w1) (hg : W.grownBy w1 vc.ownBlock)
  (hat : v1.ownBlock = vc.ownBlock ∨ ∃ b, v1.ownBlock = some b ∧ W.heap.size ≤ b) :
  w1.heap[Bw]? = some (.cells #[.int .i64 a1, .map (some mb), vc, vm] 47 (0, 0)) ∧ LSt w0 R0 Bw mb a1 v1 vm m cs' ms (w1.setCell ⟨Bw, 2, none⟩ v1) := by
 obtain ⟨h1, h2, h3, h4, h5, h6, h7, h8⟩ := h
 have n2 := Kd.R_ne h5 h2 (by decide)
 have n3 := Kd.R_ne h5 h3 (by decide)
 have b2 := blk_grown h2 hg n2
 have b3 := blk_grown h3 hg n3
 have e3 := map_ne h4 h3
 have nm : some mb ≠ vc.ownBlock := by
  intro e
  obtain ⟨cells, hc⟩ := Kd.R_typed h5 mb e.symm
  exact map_ne h4 hc rfl
 have h6' := Kd.R_after h6 hg hat
 refine ⟨b3, hb.setCell (p := ⟨Bw, 2, none⟩) h8 v1, blk_far b2 (p := ⟨Bw, 2, none⟩) h7 v1, blk_set b3 2 v1, (h4.grown hg nm).setCell (a := ⟨Bw, 2, none⟩) (fun e => e3 e.symm) v1, Kd.R_set ho b3 (by decide) 2 v1, Kd.R_set h6' b3 (by decide) 2 v1, h7, h8⟩
theorem LSt.freshM (h : LSt w0 R0 Bw mb a1 vc vm m cs ms W) : ∀ k, W.heap.size ≤ k → True ∧ some k ≠ vc.ownBlock := fun k hk => ⟨trivial, fun e => by
 have := Kd.R_lt h.2.2.2.2.1 k e.symm; omega⟩
theorem LSt.freshC (h : LSt w0 R0 Bw mb a1 vc vm m cs ms W) : ∀ k, W.heap.size ≤ k → True ∧ some k ≠ vm.ownBlock := fun k hk => ⟨trivial, fun e => by
 have := Kd.R_lt h.2.2.2.2.2.1 k e.symm; omega⟩
end
def inB (a1 : Int) (f : Fd) : Bool := decide (0 ≤ f.f0 ∧ f.f0 < a1)
def mineB (a2 a3 : Int) (f : Fd) : Bool := !f.f2 && (decide (f.f3.f0 = a2) && (f.f3.f1 == a3))
def mineL (a1 a2 a3 : Int) (l : List Fd) : List Fd := l.filter fun f => inB a1 f && mineB a2 a3 f
def countsL (a1 a2 a3 a4 : Int) (l : List Fd) : List Fd := l.filter fun f => inB a1 f && (mineB a2 a3 f && decide (f.f3.f2 < a4))
def mapStep (a1 : Int) (m : List (Int × Value)) (f : Fd) : List (Int × Value) := if inB a1 f then Mp.put f.f0 (.bool true) m else m
def mapOf (a1 : Int) (l : List Fd) : List (Int × Value) := l.foldl (mapStep a1) []
theorem mine_f (a2 a3 : Int) (f : Fd) : scan_Mine.f f.f0 f.f1 f.f2 f.f3.f0 f.f3.f1 f.f3.f2 f.f3.f3 f.f3.f4 f.f3.f5 f.f4 a2 a3 = some (mineB a2 a3 f) := by
 unfold scan_Mine.f mineB
 cases f.f2 with
 | true => rfl
 | false =>
  by_cases e : f.f3.f0 = a2
  ·rw [if_neg (by decide), if_pos e, decide_eq_true e]; rfl
  ·rw [if_neg (by decide), if_neg e, decide_eq_false e]; rfl
theorem mapOf_key (a1 : Int) (l : List Fd) (k : Int) : Mp.get k (mapOf a1 l) = if l.any (fun f => inB a1 f && decide (f.f0 = k)) then some (.bool true) else none := by
 have key : ∀ (l : List Fd) (m : List (Int × Value)) (b : Bool), (Mp.get k m = if b then some (.bool true) else none) → Mp.get k (l.foldl (mapStep a1) m) = if b || l.any (fun f => inB a1 f && decide (f.f0 = k)) then some (.bool true) else none := by
  intro l
  induction l with
  | nil => intro m b h; simpa using h
  | cons f l ih =>
   intro m b h
   rw [List.foldl_cons, List.any_cons, ← Bool.or_assoc]
   refine ih _ _ ?_
   unfold mapStep
   cases hi : inB a1 f with
   | false => simpa using h
   | true =>
    simp only [if_true]
    rw [Mp.get_put]
    by_cases e : k = f.f0
    ·rw [if_pos e]; simp [e]
    ·rw [if_neg e, h]
     have : decide (f.f0 = k) = false := decide_eq_false (fun h => e h.symm)
     rw [this]; simp
 have := key l [] false rfl
 simpa [mapOf] using this
theorem mapOf_bool (a1 : Int) (l : List Fd) (k : Int) : (Mp.get k (mapOf a1 l)).getD (.bool false) = .bool (hasKey (mapOf a1 l) k) := by
 unfold hasKey
 rw [mapOf_key]
 split <;> rfl
theorem mapOf_has (a1 : Int) (l : List Fd) (k : Int) : hasKey (mapOf a1 l) k = l.any (fun f => inB a1 f && decide (f.f0 = k)) := by
 unfold hasKey
 rw [mapOf_key]
 split <;> simp_all
section
variable (a1 a2 a3 a4 : Int) (l : List Fd) (k : Nat) (f : Fd)
theorem take_at (h : k < l.length) (hf : l[k]! = f) : l.take (k + 1) = l.take k ++ [f] := by
 rw [List.take_succ_eq_append_getElem h, ← hf, getElem!_pos l k h]
theorem mapOf_snoc (h : k < l.length) (hf : l[k]! = f) : mapOf a1 (l.take (k + 1)) = mapStep a1 (mapOf a1 (l.take k)) f := by
 rw [take_at l k f h hf]; unfold mapOf; rw [List.foldl_append]; rfl
theorem mineL_snoc (h : k < l.length) (hf : l[k]! = f) : mineL a1 a2 a3 (l.take (k + 1)) = if inB a1 f && mineB a2 a3 f then mineL a1 a2 a3 (l.take k) ++ [f] else mineL a1 a2 a3 (l.take k) := by
 rw [take_at l k f h hf]; unfold mineL; rw [List.filter_append]
 cases hb : inB a1 f && mineB a2 a3 f <;> simp [hb]
theorem countsL_snoc (h : k < l.length) (hf : l[k]! = f) : countsL a1 a2 a3 a4 (l.take (k + 1)) = if inB a1 f && (mineB a2 a3 f && decide (f.f3.f2 < a4)) then countsL a1 a2 a3 a4 (l.take k) ++ [f] else countsL a1 a2 a3 a4 (l.take k) := by
 rw [take_at l k f h hf]; unfold countsL; rw [List.filter_append]
 cases hb : inB a1 f && (mineB a2 a3 f && decide (f.f3.f2 < a4)) <;> simp [hb]
theorem mineL_len : (mineL a1 a2 a3 (l.take k)).length ≤ k := Nat.le_trans (List.length_filter_le _ _) (List.length_take_le _ _)
theorem countsL_len : (countsL a1 a2 a3 a4 (l.take k)).length ≤ k := Nat.le_trans (List.length_filter_le _ _) (List.length_take_le _ _)
end
theorem fdcells {W : World} {g : Nat} {f : Fd} (h : W.heap[g]? = some (.cells #[.int .i64 f.f0, .int .i64 f.f1, .bool f.f2, .int .i64 f.f3.f0, .int .i64 f.f3.f1, .int .i64 f.f3.f2, .int .i64 f.f3.f3, .int .i64 f.f3.f4, .bool f.f3.f5, .string f.f4] 36 (0, 0))) : W.cell? ⟨g, 0, none⟩ = some (.int .i64 f.f0) ∧ W.cell? ⟨g, 1, none⟩ = some (.int .i64 f.f1) ∧ W.cell? ⟨g, 2, none⟩ = some (.bool f.f2) ∧ W.cell? ⟨g, 3, none⟩ = some (.int .i64 f.f3.f0) ∧ W.cell? ⟨g, 4, none⟩ = some (.int .i64 f.f3.f1) ∧ W.cell? ⟨g, 5, none⟩ = some (.int .i64 f.f3.f2) ∧ W.cell? ⟨g, 6, none⟩ = some (.int .i64 f.f3.f3) ∧ W.cell? ⟨g, 7, none⟩ = some (.int .i64 f.f3.f4) ∧ W.cell? ⟨g, 8, none⟩ = some (.bool f.f3.f5) ∧ W.cell? ⟨g, 9, none⟩ = some (.string f.f4) :=
 ⟨(blk_cell h 0).trans rfl, (blk_cell h 1).trans rfl, (blk_cell h 2).trans rfl, (blk_cell h 3).trans rfl, (blk_cell h 4).trans rfl, (blk_cell h 5).trans rfl, (blk_cell h 6).trans rfl, (blk_cell h 7).trans rfl, (blk_cell h 8).trans rfl, (blk_cell h 9).trans rfl⟩
theorem wardcells {W : World} {g : Nat} {u0 u1 u2 u3 : Value} (h : W.heap[g]? = some (.cells #[u0, u1, u2, u3] 47 (0, 0))) : W.cell? ⟨g, 0, none⟩ = some u0 ∧ W.cell? ⟨g, 1, none⟩ = some u1 ∧ W.cell? ⟨g, 2, none⟩ = some u2 ∧ W.cell? ⟨g, 3, none⟩ = some u3 :=
 ⟨(blk_cell h 0).trans rfl, (blk_cell h 1).trans rfl, (blk_cell h 2).trans rfl, (blk_cell h 3).trans rfl⟩
theorem sz22 : (Try.prog.info? 22).map (·.size) = some 1 := by kernel_rfl
set_option maxHeartbeats 6400000 in
set_option maxRecDepth 100000 in
theorem look_calls (A0 : Option Addr) (c0 : Nat) (l0 : List Fd) (a1 a2 a3 a4 : Int) (w : World) (hr : Kd.C k36 w A0 l0.length l0) (hl : l0.length ≤ 1000) :
  Calls Try.prog 17 #[.slice A0 l0.length c0, .int .i64 a1, .int .i64 a2, .int .i64 a3, .int .i64 a4] w fun e w' => ∃ (mb : Nat) (vc vm : Value), e = .returned (.agg #[.int .i64 a1, .map (some mb), vc, vm]) ∧ Mp.IMap w' mb (mapOf a1 l0)
   ∧ Kd.R k36 36 w' w.heap.size (fun _ => True) vc (countsL a1 a2 a3 a4 l0) ∧ Kd.R k36 36 w' w.heap.size (fun _ => True) vm (mineL a1 a2 a3 l0) ∧ Below w.heap.size w w' := by
 have hu := Try.underlying47
 have hu2 := Try.underlying36
 have hu3 := Try.underlying34
 have HR := Lib.hid hr
 clear hr
 have hmm := @run_makeMap Try.prog
 go_enter Try.func17, Try.ntmps17
 go_wp2
 go_loopw [19] (fun s wr => ∃ (k : Nat) (vc vm : Value), s = .int .i64 (k : Int) ∧ k ≤ l0.length ∧ Aside0 (LSt w w.heap.size (w.heap.size + 1 + 1) (w.heap.size + 1) a1 vc vm (mapOf a1 (l0.take k)) (countsL a1 a2 a3 a4 (l0.take k)) (mineL a1 a2 a3 (l0.take k)) wr))
  (fun s _ => l0.length - (intOf s).toNat)
 case atStart =>
  refine ⟨0, .slice none 0 0, .slice none 0 0, rfl, by omega, ⟨((((Below.refl w.heap.size w).alloc (Nat.le_refl _) _).alloc (by simp) _).alloc (by simp; omega) _), ?_, ?_, ?_, Kd.R_nil _ _ _ _ _, Kd.R_nil _ _ _ _ _, by omega, by omega⟩⟩
  ·exact blk_alloc (blk_alloc (blk_new w _) _) _
  ·have := blk_new ((w.alloc (.cells #[.int .i64 0, .map none, .slice none 0 0, .slice none 0 0] 47)).alloc (.map #[] 0)) (.cells #[.int .i64 a1, .map (some (w.heap.size + 1)), .slice none 0 0, .slice none 0 0] 47)
   simpa using this
  ·have := Mp.IMap.made (w.alloc (.cells #[.int .i64 0, .map none, .slice none 0 0, .slice none 0 0] 47))
   have h2 : Mp.IMap ((w.alloc (.cells #[.int .i64 0, .map none, .slice none 0 0, .slice none 0 0] 47)).alloc (.map #[] 0)) (w.heap.size + 1) [] := by simpa using this
   exact h2.alloc _
 case round =>
  obtain ⟨k, vc, vm, rfl, hk, HS⟩ := hrel
  obtain ⟨wo, rfl⟩ : ∃ wo : World, wo = wr := ⟨_, rfl⟩
  obtain ⟨Ac, cc, rfl, hlc, hCc⟩ := Kd.R_reads HS.out.2.2.2.2.1
  obtain ⟨Am, cm, rfl, hlm, hCm⟩ := Kd.R_reads HS.out.2.2.2.2.2.1
  clear hCc hCm
  have hsz : w.heap.size + 1 + 1 < wo.heap.size := blk_lt HS.out.2.2.1
  have hsz0 : w.heap.size < wo.heap.size := by omega
  have hne : w.heap.size + 1 + 1 ≠ wo.heap.size := by omega
  obtain ⟨p0, p1, p2, p3⟩ := wardcells HS.out.2.2.1
  by_cases hlt : k < l0.length
  ·have hltz : (k : Int) < (l0.length : Int) := by omega
   obtain ⟨b, o, hA, hb, hcs⟩ := fcells HR.out (by omega)
   subst hA
   obtain ⟨f, hf⟩ : ∃ f, l0[k]! = f := ⟨_, rfl⟩
   have hq : ∀ i v, (encF f)[i]? = some v → wo.cell? ⟨b, o + k * 10 + i, none⟩ = some v := fun i v hi => pw_cell_below HS.out.1 (hcs k hlt i v (by rw [hf]; exact hi))
   have q0 : wo.cell? ⟨b, o + k * 10, none⟩ = some (.int .i64 f.f0) := hq 0 _ rfl
   have q1 := hq 1 _ rfl
   have q2 := hq 2 _ rfl
   have q3 := hq 3 _ rfl
   have q4 := hq 4 _ rfl
   have q5 := hq 5 _ rfl
   have q6 := hq 6 _ rfl
   have q7 := hq 7 _ rfl
   have q8 := hq 8 _ rfl
   have q9 := hq 9 _ rfl
   have em := mapOf_snoc a1 l0 k f hlt hf
   have en := mineL_snoc a1 a2 a3 l0 k f hlt hf
   have ec := countsL_snoc a1 a2 a3 a4 l0 k f hlt hf
   have hmf := mine_f a2 a3 f
   unfold mapStep at em
   clear hf hq hcs
   by_cases hin : 0 ≤ f.f0 ∧ f.f0 < a1
   ·have hi : inB a1 f = true := decide_eq_true hin
    rw [hi] at em en ec
    simp only [if_true, Bool.true_and] at em en ec
    have EM := Lib.hid em
    clear em hi
    obtain ⟨hin0, hin1⟩ := hin
    cases hmn : mineB a2 a3 f with
    | false =>
     rw [hmn] at en ec hmf
     simp only [Bool.false_and, Bool.false_eq_true, if_false] at en ec
     have EN := Lib.hid en
     have EC := Lib.hid ec
     have HMN := Lib.hid hmf
     clear en ec hmf hmn
     go_wp2_with (first
      | (at_mapUpdate; refine Mp.wp_update _ rfl _ _ _ 45 rfl 3 4 Try.underlying45 Try.underlying3 (w.heap.size + 1) _ rfl (HS.out.alloc _).2.2.2.1 f.f0 rfl (.bool true) rfl ?_; intro w1 hm1 hg1 hs1; have HS1 := Lib.hid (LSt.map (HS.out.alloc _) hm1 hg1 (by omega)); have HF1 := Lib.hid (blk_grown (blk_new wo (.cells #[.int .i64 f.f0, .int .i64 f.f1, .bool f.f2, .int .i64 f.f3.f0, .int .i64 f.f3.f1, .int .i64 f.f3.f2, .int .i64 f.f3.f3, .int .i64 f.f3.f4, .bool f.f3.f5, .string f.f4] 36 (0, 0))) hg1 (fun e => by have := Option.some.inj e; omega)); have hz1 : wo.heap.size < w1.heap.size := (by rw [hs1]; simp); obtain ⟨y0, y1, y2, y3, y4, y5, y6, y7, y8, y9⟩ := fdcells HF1.out; obtain ⟨z0, z1, z2, z3⟩ := wardcells HS1.out.2.2.1; clear hm1 hg1 hs1)
      | (go_at_call 28; refine (scan_Mine.calls f.f0 f.f1 f.f2 f.f3.f0 f.f3.f1 f.f3.f2 f.f3.f3 f.f3.f4 f.f3.f5 f.f4 a2 a3 false _ HMN.out).mono ?_; rintro e w2 ⟨rfl, hb2⟩; have HS2 := Lib.hid (HS1.out.below hb2); have HF2 := Lib.hid (blk_below HF1.out hb2); have hz2 : wo.heap.size < w2.heap.size := Nat.lt_of_lt_of_le hz1 hb2.size; obtain ⟨x0, x1, x2, x3, x4, x5, x6, x7, x8, x9⟩ := fdcells HF2.out; obtain ⟨v0, v1, v2, v3⟩ := wardcells HS2.out.2.2.1; clear hb2))
     go_roundw
     case rel => exact ⟨k + 1, _, _, by go_num, by omega, ⟨by rw [EM.out, EN.out, EC.out]; exact HS2.out⟩⟩
     case measure => simp [intOf]; omega
    | true =>
     rw [hmn] at en ec hmf
     simp only [Bool.true_and, if_true] at en ec
     have EN := Lib.hid en
     have HMN := Lib.hid hmf
     clear en hmf hmn
     by_cases hsz4 : f.f3.f2 < a4
     ·rw [decide_eq_true hsz4] at ec
      simp only [if_true] at ec
      have EC := Lib.hid ec
      clear ec
      go_wp2_with (first
       | (at_mapUpdate; refine Mp.wp_update _ rfl _ _ _ 45 rfl 3 4 Try.underlying45 Try.underlying3 (w.heap.size + 1) _ rfl (HS.out.alloc _).2.2.2.1 f.f0 rfl (.bool true) rfl ?_; intro w1 hm1 hg1 hs1; have HS1 := Lib.hid (LSt.map (HS.out.alloc _) hm1 hg1 (by omega)); have HF1 := Lib.hid (blk_grown (blk_new wo (.cells #[.int .i64 f.f0, .int .i64 f.f1, .bool f.f2, .int .i64 f.f3.f0, .int .i64 f.f3.f1, .int .i64 f.f3.f2, .int .i64 f.f3.f3, .int .i64 f.f3.f4, .bool f.f3.f5, .string f.f4] 36 (0, 0))) hg1 (fun e => by have := Option.some.inj e; omega)); have hz1 : wo.heap.size < w1.heap.size := (by rw [hs1]; simp); obtain ⟨y0, y1, y2, y3, y4, y5, y6, y7, y8, y9⟩ := fdcells HF1.out; obtain ⟨z0, z1, z2, z3⟩ := wardcells HS1.out.2.2.1; clear hm1 hg1 hs1)
       | (go_at_call 28; refine (scan_Mine.calls f.f0 f.f1 f.f2 f.f3.f0 f.f3.f1 f.f3.f2 f.f3.f3 f.f3.f4 f.f3.f5 f.f4 a2 a3 true _ HMN.out).mono ?_; rintro e w2 ⟨rfl, hb2⟩; have HS2 := Lib.hid (HS1.out.below hb2); have HF2 := Lib.hid (blk_below HF1.out hb2); have hz2 : wo.heap.size < w2.heap.size := Nat.lt_of_lt_of_le hz1 hb2.size; obtain ⟨x0, x1, x2, x3, x4, x5, x6, x7, x8, x9⟩ := fdcells HF2.out; obtain ⟨v0, v1, v2, v3⟩ := wardcells HS2.out.2.2.1; clear hb2)
       | (at_builtin; refine Kd.R_append k36 (w0 := w) w.heap.size rfl (.tmp 42) (.tmp 44) 22 36 (.agg #[.int .i64 0, .int .i64 0, .bool false, .int .i64 0, .int .i64 0, .int .i64 0, .int .i64 0, .int .i64 0, .bool false, .string ⟨#[]⟩]) 88 rfl Try.underlying22 info36 rfl (by decide) (by omega) (.slice Am (mineL a1 a2 a3 (l0.take k)).length cm) (mineL a1 a2 a3 (l0.take k)) f [.int .i64 f.f0, .int .i64 f.f1, .bool f.f2, .int .i64 f.f3.f0, .int .i64 f.f3.f1, .int .i64 f.f3.f2, .int .i64 f.f3.f3, .int .i64 f.f3.f4, .bool f.f3.f5, .string f.f4] (fun k_ => True ∧ some k_ ≠ (Value.slice Ac (countsL a1 a2 a3 a4 (l0.take k)).length cc).ownBlock) (fun _ => False) rfl rfl (k36_mkM _ _ _ f) (fun _ hk => hk.elim) HS2.out.freshM HS2.out.2.2.2.2.2.1 HS2.out.1 HS2.out.1.size (by have := mineL_len a1 a2 a3 l0 k; omega) ?_; intro r3 w3 ho1 hb1 hg1 hat1; obtain ⟨A3, c3, rfl, hle1, hC1⟩ := Kd.R_reads ho1; clear hle1 hC1; have hx3 := LSt.mine HS2.out ho1 hb1 hg1 hat1; rw [show (mineL a1 a2 a3 (l0.take k) ++ [f]).length = (mineL a1 a2 a3 (l0.take k)).length + 1 by simp] at hx3; have HX3 := Lib.hid hx3; have HF3 := Lib.hid (blk_grown HF2.out hg1 (fun e => by have := Kd.R_lt HS.out.2.2.2.2.2.1 _ e.symm; omega)); obtain ⟨s0, s1, s2, s3, s4, s5, s6, s7, s8, s9⟩ := fdcells HF3.out; obtain ⟨t0, t1, t2, t3⟩ := wardcells hx3.1; have t4 := blk_frozen hx3.1 3; clear ho1 hb1 hg1 hat1 hx3)
       | (refine gate_ (.store 22 (.tmp 46) (.tmp 45)) rfl ?_; refine Mp.wp_store1 _ rfl rfl 22 (.tmp 46) (.tmp 45) rfl (w.heap.size + 1 + 1) 3 _ _ HX3.out.1 rfl _ rfl sz22 rfl rfl (by simp) ?_; intro w4 e4; have HS4 := Lib.hid (show LSt _ _ _ _ _ _ _ _ _ _ w4 from e4 ▸ HX3.out.2); have HF4 := Lib.hid (show w4.heap[wo.heap.size]? = some (.cells #[.int .i64 f.f0, .int .i64 f.f1, .bool f.f2, .int .i64 f.f3.f0, .int .i64 f.f3.f1, .int .i64 f.f3.f2, .int .i64 f.f3.f3, .int .i64 f.f3.f4, .bool f.f3.f5, .string f.f4] 36 (0, 0)) from e4 ▸ blk_far HF3.out (p := ⟨w.heap.size + 1 + 1, 3, none⟩) (by show wo.heap.size ≠ w.heap.size + 1 + 1; omega) _); have hz4 : wo.heap.size < w4.heap.size := blk_lt HF4.out; obtain ⟨m0, m1, m2, m3, m4, m5, m6, m7, m8, m9⟩ := fdcells HF4.out; obtain ⟨n0, n1, n2, n3⟩ := wardcells HS4.out.2.2.1; clear e4)
       | (at_builtin; refine Kd.R_append k36 (w0 := w) (W := w4) w.heap.size rfl (.tmp 53) (.tmp 55) 22 36 (.agg #[.int .i64 0, .int .i64 0, .bool false, .int .i64 0, .int .i64 0, .int .i64 0, .int .i64 0, .int .i64 0, .bool false, .string ⟨#[]⟩]) 88 rfl Try.underlying22 info36 rfl (by decide) (by omega) (.slice Ac (countsL a1 a2 a3 a4 (l0.take k)).length cc) (countsL a1 a2 a3 a4 (l0.take k)) f [.int .i64 f.f0, .int .i64 f.f1, .bool f.f2, .int .i64 f.f3.f0, .int .i64 f.f3.f1, .int .i64 f.f3.f2, .int .i64 f.f3.f3, .int .i64 f.f3.f4, .bool f.f3.f5, .string f.f4] (fun k_ => True ∧ some k_ ≠ (Value.slice A3 ((mineL a1 a2 a3 (l0.take k)).length + 1) c3).ownBlock) (fun _ => False) rfl rfl (k36_mkM _ _ _ f) (fun _ hk => hk.elim) HS4.out.freshC HS4.out.2.2.2.2.1 HS4.out.1 HS4.out.1.size (by have := countsL_len a1 a2 a3 a4 l0 k; omega) ?_; intro r5 w5 ho1 hb1 hg1 hat1; obtain ⟨A5, c5, rfl, hle1, hC1⟩ := Kd.R_reads ho1; clear hle1 hC1; have hx5 := LSt.counts HS4.out ho1 hb1 hg1 hat1; rw [show ((countsL a1 a2 a3 a4 (l0.take k)) ++ [f]).length = (countsL a1 a2 a3 a4 (l0.take k)).length + 1 by simp] at hx5; have HX5 := Lib.hid hx5; obtain ⟨t50, t51, t52, t53⟩ := wardcells hx5.1; have t54 := blk_frozen hx5.1 2; clear ho1 hb1 hg1 hat1 hx5))
      go_roundw
      case rel => exact ⟨k + 1, _, _, by go_num, by omega, ⟨by rw [EM.out, EN.out, EC.out]; exact HX5.out.2⟩⟩
      case measure => simp [intOf]; omega
     ·rw [decide_eq_false hsz4] at ec
      simp only [Bool.false_eq_true, if_false] at ec
      have EC := Lib.hid ec
      clear ec
      go_wp2_with (first
       | (at_mapUpdate; refine Mp.wp_update _ rfl _ _ _ 45 rfl 3 4 Try.underlying45 Try.underlying3 (w.heap.size + 1) _ rfl (HS.out.alloc _).2.2.2.1 f.f0 rfl (.bool true) rfl ?_; intro w1 hm1 hg1 hs1; have HS1 := Lib.hid (LSt.map (HS.out.alloc _) hm1 hg1 (by omega)); have HF1 := Lib.hid (blk_grown (blk_new wo (.cells #[.int .i64 f.f0, .int .i64 f.f1, .bool f.f2, .int .i64 f.f3.f0, .int .i64 f.f3.f1, .int .i64 f.f3.f2, .int .i64 f.f3.f3, .int .i64 f.f3.f4, .bool f.f3.f5, .string f.f4] 36 (0, 0))) hg1 (fun e => by have := Option.some.inj e; omega)); have hz1 : wo.heap.size < w1.heap.size := (by rw [hs1]; simp); obtain ⟨y0, y1, y2, y3, y4, y5, y6, y7, y8, y9⟩ := fdcells HF1.out; obtain ⟨z0, z1, z2, z3⟩ := wardcells HS1.out.2.2.1; clear hm1 hg1 hs1)
       | (go_at_call 28; refine (scan_Mine.calls f.f0 f.f1 f.f2 f.f3.f0 f.f3.f1 f.f3.f2 f.f3.f3 f.f3.f4 f.f3.f5 f.f4 a2 a3 true _ HMN.out).mono ?_; rintro e w2 ⟨rfl, hb2⟩; have HS2 := Lib.hid (HS1.out.below hb2); have HF2 := Lib.hid (blk_below HF1.out hb2); have hz2 : wo.heap.size < w2.heap.size := Nat.lt_of_lt_of_le hz1 hb2.size; obtain ⟨x0, x1, x2, x3, x4, x5, x6, x7, x8, x9⟩ := fdcells HF2.out; obtain ⟨v0, v1, v2, v3⟩ := wardcells HS2.out.2.2.1; clear hb2)
       | (at_builtin; refine Kd.R_append k36 (w0 := w) w.heap.size rfl (.tmp 42) (.tmp 44) 22 36 (.agg #[.int .i64 0, .int .i64 0, .bool false, .int .i64 0, .int .i64 0, .int .i64 0, .int .i64 0, .int .i64 0, .bool false, .string ⟨#[]⟩]) 88 rfl Try.underlying22 info36 rfl (by decide) (by omega) (.slice Am (mineL a1 a2 a3 (l0.take k)).length cm) (mineL a1 a2 a3 (l0.take k)) f [.int .i64 f.f0, .int .i64 f.f1, .bool f.f2, .int .i64 f.f3.f0, .int .i64 f.f3.f1, .int .i64 f.f3.f2, .int .i64 f.f3.f3, .int .i64 f.f3.f4, .bool f.f3.f5, .string f.f4] (fun k_ => True ∧ some k_ ≠ (Value.slice Ac (countsL a1 a2 a3 a4 (l0.take k)).length cc).ownBlock) (fun _ => False) rfl rfl (k36_mkM _ _ _ f) (fun _ hk => hk.elim) HS2.out.freshM HS2.out.2.2.2.2.2.1 HS2.out.1 HS2.out.1.size (by have := mineL_len a1 a2 a3 l0 k; omega) ?_; intro r3 w3 ho1 hb1 hg1 hat1; obtain ⟨A3, c3, rfl, hle1, hC1⟩ := Kd.R_reads ho1; clear hle1 hC1; have hx3 := LSt.mine HS2.out ho1 hb1 hg1 hat1; rw [show (mineL a1 a2 a3 (l0.take k) ++ [f]).length = (mineL a1 a2 a3 (l0.take k)).length + 1 by simp] at hx3; have HX3 := Lib.hid hx3; have HF3 := Lib.hid (blk_grown HF2.out hg1 (fun e => by have := Kd.R_lt HS.out.2.2.2.2.2.1 _ e.symm; omega)); obtain ⟨s0, s1, s2, s3, s4, s5, s6, s7, s8, s9⟩ := fdcells HF3.out; obtain ⟨t0, t1, t2, t3⟩ := wardcells hx3.1; have t4 := blk_frozen hx3.1 3; clear ho1 hb1 hg1 hat1 hx3))
      go_roundw
      case rel => exact ⟨k + 1, _, _, by go_num, by omega, ⟨by rw [EM.out, EN.out, EC.out]; exact HX3.out.2⟩⟩
      case measure => simp [intOf]; omega
   ·have hi : inB a1 f = false := decide_eq_false hin
    rw [hi] at em en ec
    simp only [Bool.false_and, Bool.false_eq_true, if_false] at em en ec
    have EM := Lib.hid em
    have EN := Lib.hid en
    have EC := Lib.hid ec
    clear em en ec hi hmf
    go_wp2
    all_goals
     go_roundw
     case rel => exact ⟨k + 1, _, _, by go_num, by omega, ⟨by rw [EM.out, EN.out, EC.out]; exact HS.out.alloc _⟩⟩
     case measure => simp [intOf]; omega
  ·have hltz : ¬ (k : Int) < (l0.length : Int) := by omega
   have e : k = l0.length := by omega
   subst e
   obtain ⟨r0, r1, r2, r3⟩ := wardcells HS.out.2.1
   have fr0 := blk_frozen HS.out.2.1 0
   have fr1 := blk_frozen HS.out.2.1 1
   have fr2 := blk_frozen HS.out.2.1 2
   have fr3 := blk_frozen HS.out.2.1 3
   have HE1 := Lib.hid (show l0.take l0.length = l0 from List.take_length)
   go_wp2
   have b1 := blk_set (blk_set (blk_set (blk_set HS.out.2.1 0 (.int .i64 a1)) 1 (.map (some (w.heap.size + 1)))) 2 (.slice Ac (countsL a1 a2 a3 a4 l0).length cc)) 3 (.slice Am (mineL a1 a2 a3 l0).length cm)
   have hs := HS.out
   rw [HE1.out] at hs
   obtain ⟨g1, g2, g3, g4, g5, g6, g7, g8⟩ := hs
   have nmb : w.heap.size + 1 ≠ w.heap.size := by omega
   refine bodyPost_ret (results_cell_row rfl _ _ w.heap.size 47 #[.int .i64 a1, .map (some (w.heap.size + 1)), .slice Ac (countsL a1 a2 a3 a4 l0).length cc, .slice Am (mineL a1 a2 a3 l0).length cm] (0, 0) _ rfl b1 hu rfl (by kernel_rfl)) rfl ?_
   refine ⟨w.heap.size + 1, _, _, rfl, ?_, ?_, ?_, ?_⟩
   ·exact (((g4.setCell (a := ⟨w.heap.size, 0, none⟩) nmb _).setCell (a := ⟨w.heap.size, 1, none⟩) nmb _).setCell (a := ⟨w.heap.size, 2, none⟩) nmb _).setCell (a := ⟨w.heap.size, 3, none⟩) nmb _
   ·exact Kd.R_mono (Kd.R_set (Kd.R_set (Kd.R_set (Kd.R_set g5 g2 (by decide) 0 _) (blk_set g2 0 _) (by decide) 1 _) (blk_set (blk_set g2 0 _) 1 _) (by decide) 2 _) (blk_set (blk_set (blk_set g2 0 _) 1 _) 2 _) (by decide) 3 _) (fun _ _ => trivial)
   ·exact Kd.R_mono (Kd.R_set (Kd.R_set (Kd.R_set (Kd.R_set g6 g2 (by decide) 0 _) (blk_set g2 0 _) (by decide) 1 _) (blk_set (blk_set g2 0 _) 1 _) (by decide) 2 _) (blk_set (blk_set (blk_set g2 0 _) 1 _) 2 _) (by decide) 3 _) (fun _ _ => trivial)
   ·exact (((g1.setCell (p := ⟨w.heap.size, 0, none⟩) (Nat.le_refl _) _).setCell (p := ⟨w.heap.size, 1, none⟩) (Nat.le_refl _) _).setCell (p := ⟨w.heap.size, 2, none⟩) (Nat.le_refl _) _).setCell (p := ⟨w.heap.size, 3, none⟩) (Nat.le_refl _) _
end Go.Proofs.Ytdmbibjgiehboaa.X
