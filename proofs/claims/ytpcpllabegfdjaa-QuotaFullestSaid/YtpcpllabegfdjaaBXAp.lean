-- Cut by a program of this session (wip/pr/pack.py) to what one claim needs.
import Derived.Maps.AppendAt
import Derived.Laws.OwnMore
import Derived.Test.YtpcpllabegfdjaaBPx0
import Derived.Test.YtpcpllabegfdjaaBWApart
namespace Go.Proofs.Ytpcpllabegfdjaa.X
open Go.RowKit Go.Proofs.YtpcpllabegfdjaaW.PrintWords Go.Proofs.YtpcpllabegfdjaaW.PrintLast Go.Proofs.YtpcpllabegfdjaaW.PrintMore Go.Proofs.Ytpcpllabegfdjaa.P
set_option linter.unusedVariables false
set_option linter.unusedSimpArgs false
def Out (W w1 : World) (v v1 : Value) (n : Nat) : Prop :=
 (∃ g c c1, v = .slice (some ⟨g, 0, none⟩) n c ∧ v1 = .slice (some ⟨g, 0, none⟩) (n + 1) c1) ∨ (Below W.heap.size W w1 ∧ ∀ k, v1.ownBlock = some k → W.heap.size ≤ k)
section
variable {P : Program} (w : World)
theorem run_append_out (base : Nat) (t ty e : TypeId) (i : TypeInfo) (z : Value) (size bytes : Nat) (ht : P.underlying t = some (.slice e)) (hi : P.info? e = some i) (hz : i.zero = some z)
  (hsize : i.size = size) (hby : i.bytes = bytes) (hzs : z.cells.size = size) (hsz : 0 < size)
  (v : Value) (n : Nat) (xs : List Value) (hown : w.ownsRow base e size v n xs)
  (a : Addr) (c : Nat) (news : List Value) (hl : news.length = size) (hnews : ∀ j u, news[j]? = some u → w.cell? (a.add j) = some u) (h1 : ∀ u ∈ news, u.oneCell' = true)
  (h63 : n + 1 ≤ maxLen) (hbytes : (n + 1) * bytes ≤ 140737488355328) (hbase : base ≤ w.heap.size) :
  ∃ v' w', (Builtin.append_ #[t, t] ty #[v, .slice (some a) 1 c]).run P w = .ok v' w' ∧ w'.ownsRow base e size v' (n + 1) (xs ++ news) ∧ w.grownBy w' v.ownBlock ∧ (v'.ownBlock = v.ownBlock ∨ v'.ownBlock = some w.heap.size) ∧ Out w w' v v' n := by
 obtain ⟨v', w', hr, h2, h3, h4, h5⟩ := run_append_own_at (P := P) w base t ty e i z size bytes ht hi hz hsize hby hzs hsz v n xs hown a 1 c news (by rw [hl, Nat.one_mul]) hnews h1 h63 hbytes hbase
 refine ⟨v', w', hr, h2, h3, h5, ?_⟩
 have hown0 := hown
 rcases hown.2 with ⟨rfl, rfl⟩ | ⟨g, cap, cur, rfl, hbg, hg, hnc, hcm, hcs, htake⟩
 ·refine .inr ⟨⟨h3.os, h3.tape, h3.output, h3.size, fun k hk => h3.block k hk (by simp [Value.ownBlock])⟩, fun k hk => ?_⟩
  rcases h5 with h5 | h5
  ·rw [h5] at hk; simp [Value.ownBlock] at hk
  ·rw [h5] at hk; injection hk with hk; omega
 ·by_cases hroom : n + 1 ≤ cap
  ·obtain ⟨w2, hr2, _, _⟩ := run_append_fits (P := P) w base t ty e i size ht hi hsize g n cap xs hown0 a 1 c news (by rw [hl, Nat.one_mul]) hnews h1 hroom
   rw [hr2] at hr
   injection hr with e1 e2
   exact .inl ⟨g, cap, cap, rfl, e1.symm⟩
  ·have holds : ∀ j u, xs[j]? = some u → w.cell? ((⟨g, 0, none⟩ : Addr).add j) = some u := hown0.cells (g := g) rfl
   have hm : n + 1 ≤ 9223372036854775807 := by simp only [maxLen] at h63; omega
   have hr2 := run_append_grow (P := P) w t ty e i z ht hi hz ⟨g, 0, none⟩ n cap xs (by rw [hsize]; exact hown0.1) holds a 1 c news (by rw [hl, hsize, Nat.one_mul]) hnews (by omega) (by omega) (growslice_fits (by omega) (by rw [hby]; exact hbytes))
   rw [hr2] at hr
   injection hr with e1 e2
   refine .inr ⟨?_, fun k hk => ?_⟩
   ·rw [← e2]; exact below_alloc (below_drew (Below.refl _ _)) _
   ·rw [← e1] at hk
    have : w.heap.size = k := by simpa [Value.ownBlock] using hk
    omega
end
section
variable {P : Program} {ops : Array Oper} {rest : List Oper} {o : Oper} {a : Act} {Q : Exit → Act → World → Prop} {α : Type}
theorem out_box {W w1 : World} {v v1 : Value} {n : Nat} {b : Obj} (h : Out (W.alloc b) w1 v v1 n) : Out W w1 v v1 n := by
 rcases h with h | ⟨h1, h2⟩
 ·exact .inl h
 ·refine .inr ⟨below_step (below_alloc (Below.refl _ _) b) h1, fun k hk => ?_⟩
  have := h2 k hk
  simp at this
  omega
theorem R_append_out (d : Kd α) {w0 W : World} (base : Nat) (hgd : o.guard = none) (s x : Operand) (t e : TypeId) (z : Value) (bytes : Nat)
  (ho : o.op = .call { callee := .builtin .append, args := #[s, x], argTypes := #[t, t] })
  (ht : P.underlying t = some (.slice e)) (hinfo : (P.info? e).map (fun i => (i.zero, i.size, i.bytes)) = some (some z, d.sz, bytes)) (hz : z.cells.size = d.sz) (hs0 : 0 < d.sz) (hb0 : 0 < bytes)
  (v : Value) (xs : List α) (p : α) (cs : List Value) (ok okp : Nat → Prop) (hs : a.eval s = v) (hx : a.eval x = .slice (some ⟨W.heap.size, 0, none⟩) 1 1) (hp : d.M W base okp p cs) (hokp : ∀ k, okp k → ok k ∧ some k ≠ v.ownBlock) (hfresh : ∀ k, W.heap.size ≤ k → ok k)
  (HO : d.R e W base ok v xs) (HB : Below base w0 W) (hbase : base ≤ W.heap.size) (hl : (xs.length + 1) * bytes ≤ 140737488355328)
  (h : ∀ v1 w1, d.R e w1 base ok v1 (xs ++ [p]) → Below base w0 w1 → W.grownBy w1 v.ownBlock → Out W w1 v v1 xs.length → wpList P ops Q rest (a.put o.dst v1) w1) :
  wpList P ops Q (o :: rest) a (W.alloc (.cells cs.toArray e)) := by
 obtain ⟨h0, inner, hown, hr⟩ := HO
 obtain ⟨i0, hi, hzz⟩ := Option.map_eq_some_iff.1 hinfo
 simp only [Prod.mk.injEq] at hzz
 obtain ⟨hz0, hz1, hz2⟩ := hzz
 have hys : cs.length = d.sz := d.K_len (d.K_of_M hp)
 have hlen : xs.length + 1 ≤ 140737488355328 := Nat.le_trans (Nat.le_mul_of_pos_right _ hb0) hl
 refine wpList_plain hgd fun K hK => ?_
 obtain ⟨v', w', hrun, h2, h3, h5, h6⟩ := run_append_out (P := P) (W.alloc (.cells cs.toArray e)) base t o.type e i0 z d.sz bytes ht hi hz0 hz1 hz2 hz hs0 v xs.length inner (hown.alloc _) ⟨W.heap.size, 0, none⟩ 1 cs hys
  (by simpa using World.news_of_block (cs := cs.toArray) (t := e) (fr := (0, 0)) (heap_alloc_new W (.cells cs.toArray e))) (d.K_one (d.K_of_M hp)) (by simp only [maxLen]; omega) hl (by simp; omega)
 have hat : v'.ownBlock = v.ownBlock ∨ ∃ b, v'.ownBlock = some b ∧ W.heap.size ≤ b := by
  rcases h5 with h5 | h5
  ·exact .inl h5
  ·exact .inr ⟨_, h5, by simp⟩
 have hg := World.grownBy.trans (World.grownBy_alloc W _ _) h3
 unfold Oper.wp execOp
 simp only [ho, resolve, invoke, builtin, Sem.run_bind, Sem.run_pure, Result.andThen_ok, List.map_toArray, List.map_cons, List.map_nil, hs, hx, hrun]
 exact hK _ _ (h v' w' (Kd.R_appended h0 hr hp hokp hfresh h2 hg hat) ((HB.alloc hbase _).grown h3 (by simp; omega) (own_base hown)) hg (out_box h6))
theorem S_append_out (d : Kd α) {w0 W : World} (base : Nat) (hgd : o.guard = none) (s x : Operand) (t e : TypeId) (z : Value) (bytes : Nat)
  (ho : o.op = .call { callee := .builtin .append, args := #[s, x], argTypes := #[t, t] })
  (ht : P.underlying t = some (.slice e)) (hinfo : (P.info? e).map (fun i => (i.zero, i.size, i.bytes)) = some (some z, d.sz, bytes)) (hz : z.cells.size = d.sz) (hs0 : 0 < d.sz) (hb0 : 0 < bytes)
  (v : Value) (xs : List α) (p : α) (cs : List Value) (ok okp : Nat → Prop) (hs : a.eval s = v) (hx : a.eval x = .slice (some ⟨W.heap.size, 0, none⟩) 1 1) (hp : d.M W base okp p cs) (hokp : ∀ k, okp k → ok k ∧ some k ≠ v.ownBlock) (hfresh : ∀ k, W.heap.size ≤ k → ok k)
  (HO : Kd.S d e W base (fun k => ok k ∧ ¬ okp k) v xs) (HB : Below base w0 W) (hbase : base ≤ W.heap.size) (hl : (xs.length + 1) * bytes ≤ 140737488355328)
  (h : ∀ v1 w1, Kd.S d e w1 base ok v1 (xs ++ [p]) → Below base w0 w1 → W.grownBy w1 v.ownBlock → Out W w1 v v1 xs.length → wpList P ops Q rest (a.put o.dst v1) w1) :
  wpList P ops Q (o :: rest) a (W.alloc (.cells cs.toArray e)) := by
 obtain ⟨f, hf, hR⟩ := Kd.S_tag HO xs.length okp (fun _ hk h2 => h2.2 hk)
 refine R_append_out (Kd.tag f d) base hgd s x t e z bytes ho ht hinfo hz hs0 hb0 v xs.zipIdx (p, xs.length) cs ok okp hs hx (d.M_mono (fun k hk => ⟨hk, hf k hk⟩) hp) hokp hfresh (Kd.R_mono hR (fun _ hk => hk.1)) HB hbase (by rw [List.length_zipIdx]; exact hl) ?_
 intro v1 w1 hr
 rw [← Kd.zip_snoc, List.length_zipIdx] at *
 exact h v1 w1 ⟨f, hr⟩
end
def Al {α : Type} (d : Kd α) (W : World) (v : Value) (A : Option Addr) (xr xs : List α) : Prop :=
 (∃ c, v = .slice A xs.length c ∧ xr.length ≤ xs.length ∧ xs.take xr.length = xr) ∨ (∃ wB, d.C wB A xr.length xr ∧ Below wB.heap.size wB W ∧ ∀ k, v.ownBlock = some k → wB.heap.size ≤ k)
section
variable {α : Type} {d : Kd α} {W w1 : World} {v v1 : Value} {A : Option Addr} {xr xs : List α} {e base : Nat} {ok : Nat → Prop}
theorem C_take {n m : Nat} (h : d.C W A n xs) (hm : m ≤ n) : d.C W A m (xs.take m) := by
 obtain ⟨h1, h2, h3⟩ := h
 refine ⟨by rw [List.length_take]; omega, by omega, fun h0 => ?_⟩
 obtain ⟨ad, ea, hc⟩ := h3 (by omega)
 refine ⟨ad, ea, fun j p hj => hc j p ?_⟩
 rw [List.getElem?_take] at hj
 split at hj
 ·exact hj
 ·cases hj
theorem al_C (h : Al d W v A xr xs) (HO : Kd.S d e W base ok v xs) : d.C W A xr.length xr := by
 rcases h with ⟨c, rfl, hl, ht⟩ | ⟨wB, hC, hB, _⟩
 ·have := C_take (Kd.S_reads' HO).2.2 hl
  rw [ht] at this
  exact this
 ·exact Kd.C_below hC hB
theorem al_below (h : Al d W v A xr xs) (hb : Below W.heap.size W w1) : Al d w1 v A xr xs := by
 rcases h with h | ⟨wB, hC, hB, hk⟩
 ·exact .inl h
 ·exact .inr ⟨wB, hC, below_step hB hb, hk⟩
theorem al_out {p : α} (h : Al d W v A xr xs) (HO : Kd.S d e W base ok v xs) (hg : W.grownBy w1 v.ownBlock) (ho : Out W w1 v v1 xs.length) : Al d w1 v1 A xr (xs ++ [p]) := by
 have hC := al_C h HO
 rcases ho with ⟨g, c, c1, rfl, rfl⟩ | ⟨hb, hk⟩
 ·rcases h with ⟨c2, e2, hl, ht⟩ | ⟨wB, hC, hB, hk⟩
  ·have e3 : some (⟨g, 0, none⟩ : Addr) = A := by injection e2
   subst e3
   refine .inl ⟨c1, by rw [List.length_append, List.length_singleton], by rw [List.length_append]; omega, ?_⟩
   rw [List.take_append_of_le_length hl]; exact ht
  ·exact .inr ⟨wB, hC, hB.grown hg hB.size hk, fun k hk' => hk k (by simpa [Value.ownBlock] using hk')⟩
 ·exact .inr ⟨W, hC, hb, hk⟩
theorem al_start {c : Nat} : Al d W (.slice A xs.length c) A xs xs := .inl ⟨c, rfl, Nat.le_refl _, by simp⟩
end
end Go.Proofs.Ytpcpllabegfdjaa.X
