-- Cut by a program of this session (wip/pr/pack.py) to what one claim needs.
import Derived.Test.YtdmbibjgiehboaaAHealC
import Derived.Test.YtdmbibjgiehboaaAPx14
namespace Go.Proofs.Ytdmbibjgiehboaa.Hl
open Go.RowKit Go.Proofs.YtdmbibjgiehboaaW.PrintWords Go.Proofs.YtdmbibjgiehboaaW.PrintLast Go.Proofs.YtdmbibjgiehboaaW.PrintMore Go.Proofs.Ytdmbibjgiehboaa.P Go.Proofs.Ytdmbibjgiehboaa.X Go.Proofs.Ytdmbibjgiehboaa.Gen
set_option linter.unusedVariables false
set_option linter.unusedSimpArgs false
set_option linter.unusedSectionVars false
theorem vals_keys (m : List (Int × Pg)) : (vals m).map (·.1) = m.map (·.1) := by unfold vals; rw [List.map_map]; rfl
theorem putF_nodup (k : Int) (f : Pg) {m : List (Int × Pg)} (h : (m.map (·.1)).Nodup) : ((putF k f m).map (·.1)).Nodup := by
 have := Mp.put_nodup k (fval f) (m := vals m) (by rw [vals_keys]; exact h)
 rw [put_vals, vals_keys] at this
 exact this
theorem best_nodup (gone : List Int) (cs : List Pg) : ((bestL gone cs).map (·.1)).Nodup := by
 have key : ∀ (cs : List Pg) (m : List (Int × Pg)), (m.map (·.1)).Nodup → ((cs.foldl (bestStep gone) m).map (·.1)).Nodup := by
  intro cs
  induction cs with
  | nil => intro m h; exact h
  | cons f cs ih =>
   intro m h
   rw [List.foldl_cons]
   refine ih _ ?_
   unfold bestStep
   generalize (!decide (f.f0 ∈ gone) && (match getF f.f3.f2 m with | none => true | some g => aheadLt f g)) = c
   cases c with
   | true => exact putF_nodup _ _ h
   | false => exact h
 exact key cs [] (by simp)
theorem getF_mem (k : Int) (f : Pg) {m : List (Int × Pg)} (h : (m.map (·.1)).Nodup) : getF k m = some f ↔ (k, f) ∈ m := by
 induction m with
 | nil => simp [getF]
 | cons p m ih =>
  rw [List.map_cons, List.nodup_cons] at h
  rw [getF, List.mem_cons]
  by_cases e : k = p.1
  ·rw [if_pos e]
   constructor
   ·intro h2
    left
    have := Option.some.inj h2
    rw [e, ← this]
   ·rintro (h2 | h2)
    ·rw [← h2]
    ·exact absurd (List.mem_map.2 ⟨(k, f), h2, e⟩) h.1
  ·rw [if_neg e, ih h.2]
   constructor
   ·exact .inr
   ·rintro (h2 | h2)
    ·exact absurd (by rw [← h2]) e
    ·exact h2
theorem refBest_spec (gone : List Int) (place : Int) (cs : List Pg) :
  (∀ g, cs.foldl (refStep place gone) none = some g → g ∈ cs ∧ g.f3.f2 = place ∧ ¬ g.f0 ∈ gone) ∧
  (∀ f, f ∈ cs → f.f3.f2 = place → ¬ f.f0 ∈ gone → ∃ g, cs.foldl (refStep place gone) none = some g ∧ f.f3.f3 ≤ g.f3.f3) := by
 have lt_seq : ∀ f g : Pg, aheadLt f g = true → g.f3.f3 ≤ f.f3.f3 := by
  intro f g h
  unfold aheadLt newerB at h
  by_cases e : f.f3.f3 = g.f3.f3
  ·omega
  ·rw [if_neg e, if_neg (fun h => e h.symm)] at h
   by_cases h2 : f.f3.f3 > g.f3.f3
   ·omega
   ·rw [decide_eq_false h2, decide_eq_true (show g.f3.f3 > f.f3.f3 by omega)] at h
    simp at h
 have nlt_seq : ∀ f g : Pg, ¬ aheadLt f g = true → f.f3.f3 ≤ g.f3.f3 := by
  intro f g h
  unfold aheadLt newerB at h
  by_cases e : f.f3.f3 = g.f3.f3
  ·omega
  ·rw [if_neg e] at h
   by_cases h2 : f.f3.f3 > g.f3.f3
   ·rw [decide_eq_true h2] at h
    exact absurd (by simp) h
   ·omega
 have key : ∀ (cs : List Pg) (b : Option Pg) (D : List Pg), (∀ g, b = some g → g ∈ D ∧ g.f3.f2 = place ∧ ¬ g.f0 ∈ gone) → (∀ f, f ∈ D → f.f3.f2 = place → ¬ f.f0 ∈ gone → ∃ g, b = some g ∧ f.f3.f3 ≤ g.f3.f3) →
   (∀ g, cs.foldl (refStep place gone) b = some g → g ∈ D ++ cs ∧ g.f3.f2 = place ∧ ¬ g.f0 ∈ gone) ∧ (∀ f, f ∈ D ++ cs → f.f3.f2 = place → ¬ f.f0 ∈ gone → ∃ g, cs.foldl (refStep place gone) b = some g ∧ f.f3.f3 ≤ g.f3.f3) := by
  intro cs
  induction cs with
  | nil => intro b D h1 h2; simpa using ⟨h1, h2⟩
  | cons f cs ih =>
   intro b D h1 h2
   rw [List.foldl_cons]
   have := ih (refStep place gone b f) (D ++ [f]) ?_ ?_
   ·rw [List.append_assoc, List.singleton_append] at this; exact this
   ·intro g hg
    by_cases hin : f.f0 ∈ gone
    ·rw [ref_gone (decide_eq_true hin)] at hg
     have := h1 g hg
     exact ⟨List.mem_append_left _ this.1, this.2⟩
    ·by_cases hp : f.f3.f2 = place
     ·cases b with
      | none =>
       rw [ref_none (decide_eq_false hin) hp] at hg
       have := Option.some.inj hg
       subst this
       exact ⟨by simp, hp, hin⟩
      | some g0 =>
       by_cases ha : aheadLt f g0 = true
       ·rw [ref_new (decide_eq_false hin) hp ha] at hg
        have := Option.some.inj hg
        subst this
        exact ⟨by simp, hp, hin⟩
       ·rw [ref_old (decide_eq_false hin) hp (by simpa using ha)] at hg
        have := h1 g hg
        exact ⟨List.mem_append_left _ this.1, this.2⟩
     ·rw [ref_else hp] at hg
      have := h1 g hg
      exact ⟨List.mem_append_left _ this.1, this.2⟩
   ·intro x hx hxp hxg
    have old : x ∈ D → ∃ g, refStep place gone b f = some g ∧ x.f3.f3 ≤ g.f3.f3 := by
     intro hxD
     obtain ⟨g0, hb, hle⟩ := h2 x hxD hxp hxg
     subst hb
     by_cases hin : f.f0 ∈ gone
     ·rw [ref_gone (decide_eq_true hin)]; exact ⟨g0, rfl, hle⟩
     ·by_cases hp : f.f3.f2 = place
      ·by_cases ha : aheadLt f g0 = true
       ·rw [ref_new (decide_eq_false hin) hp ha]
        exact ⟨f, rfl, Int.le_trans hle (lt_seq f g0 ha)⟩
       ·rw [ref_old (decide_eq_false hin) hp (by simpa using ha)]; exact ⟨g0, rfl, hle⟩
      ·rw [ref_else hp]; exact ⟨g0, rfl, hle⟩
    rcases List.mem_append.1 hx with hx | hx
    ·exact old hx
    ·have e : x = f := by simpa using hx
     subst e
     cases b with
     | none => rw [ref_none (decide_eq_false hxg) hxp]; exact ⟨x, rfl, Int.le_refl _⟩
     | some g0 =>
      by_cases ha : aheadLt x g0 = true
      ·rw [ref_new (decide_eq_false hxg) hxp ha]; exact ⟨x, rfl, Int.le_refl _⟩
      ·rw [ref_old (decide_eq_false hxg) hxp (by simpa using ha)]
       exact ⟨g0, rfl, nlt_seq x g0 ha⟩
 have := key cs none [] (fun g h => by cases h) (fun f h => by cases h)
 simpa using this
def spotAt (best : List (Int × Pg)) (q : Nat) : Option Sp := (getF (q : Int) best).map fun f => ⟨(q : Int), f.f0, f.f1⟩
def spotsTo (best : List (Int × Pg)) (n : Nat) : List Sp := (List.range n).filterMap (spotAt best)
theorem spotsTo_succ (best : List (Int × Pg)) (n : Nat) : spotsTo best (n + 1) = spotsTo best n ++ (spotAt best n).toList := by
 unfold spotsTo
 rw [List.range_succ, List.filterMap_append]
 cases h : spotAt best n <;> simp [List.filterMap_cons, h]
theorem spotsTo_lt (best : List (Int × Pg)) : ∀ n, (spotsTo best n).Pairwise (fun a b => a.f0 < b.f0) ∧ ∀ s, s ∈ spotsTo best n → 0 ≤ s.f0 ∧ s.f0 < (n : Int)
 | 0 => ⟨by simp [spotsTo], fun s hs => by simp [spotsTo] at hs⟩
 | n + 1 => by
  obtain ⟨h1, h2⟩ := spotsTo_lt best n
  rw [spotsTo_succ]
  unfold spotAt
  cases h : getF (n : Int) best with
  | none =>
   simp only [Option.map_none, Option.toList_none, List.append_nil]
   exact ⟨h1, fun s hs => by have := h2 s hs; omega⟩
  | some f =>
   simp only [Option.map_some, Option.toList_some]
   refine ⟨List.pairwise_append.2 ⟨h1, List.pairwise_singleton _ _, fun a ha b hb => ?_⟩, fun s hs => ?_⟩
   ·rw [List.mem_singleton] at hb
    subst hb
    exact (h2 a ha).2
   ·rcases List.mem_append.1 hs with hs | hs
    ·have := h2 s hs; omega
    ·rw [List.mem_singleton] at hs
     subst hs
     exact ⟨by show (0 : Int) ≤ (n : Int); omega, by show (n : Int) < ((n + 1 : Nat) : Int); omega⟩
theorem spotsTo_mem (best : List (Int × Pg)) (n : Nat) (s : Sp) : s ∈ spotsTo best n ↔ ∃ q : Nat, q < n ∧ ∃ f, getF (q : Int) best = some f ∧ s = ⟨(q : Int), f.f0, f.f1⟩ := by
 unfold spotsTo spotAt
 rw [List.mem_filterMap]
 constructor
 ·rintro ⟨q, hq, h⟩
  obtain ⟨f, hf, e⟩ := Option.map_eq_some_iff.1 h
  exact ⟨q, List.mem_range.1 hq, f, hf, e.symm⟩
 ·rintro ⟨q, hq, f, hf, rfl⟩
  exact ⟨q, List.mem_range.2 hq, by rw [hf]; rfl⟩
theorem spots_eq (best : List (Int × Pg)) (hn : (best.map (·.1)).Nodup) (hk : ∀ p, p ∈ best → 0 ≤ p.1 ∧ p.1 < 64) : spotsOf best = spotsTo best 64 := by
 obtain ⟨h1, h2⟩ := spotsTo_lt best 64
 refine (spots_one hn ?_ (h1.imp (fun h => Int.le_of_lt h))).symm
 have nd1 : (spotsTo best 64).Nodup := by
  rw [List.nodup_iff_pairwise_ne]
  exact h1.imp (fun {a b} h e => by rw [e] at h; omega)
 have nd2 : (best.map spotOf).Nodup := by
  have : ((best.map spotOf).map (·.f0)).Nodup := by rw [List.map_map]; exact hn
  exact (List.nodup_iff_pairwise_ne.2 ((List.pairwise_map.1 (List.nodup_iff_pairwise_ne.1 this)).imp (fun h e => h (by rw [e]))))
 rw [List.perm_ext_iff_of_nodup nd1 nd2]
 intro s
 rw [spotsTo_mem, List.mem_map]
 constructor
 ·rintro ⟨q, hq, f, hf, rfl⟩
  exact ⟨((q : Int), f), (getF_mem _ _ hn).1 hf, rfl⟩
 ·rintro ⟨⟨k, f⟩, hp, rfl⟩
  have := hk _ hp
  refine ⟨k.toNat, by omega, f, ?_, ?_⟩
  ·rw [show ((k.toNat : Nat) : Int) = k by have := this.1; simp at this; omega]
   exact (getF_mem _ _ hn).2 hp
  ·show spotOf (k, f) = _
   rw [show ((k.toNat : Nat) : Int) = k by have := this.1; simp at this; omega]
   rfl
theorem best_keys (l : List Pg) (a1 a2 a3 a4 : Int) (hok : l.all okF = true) : ∀ p, p ∈ bestOf l a1 a2 a3 a4 → 0 ≤ p.1 ∧ p.1 < 64 := by
 intro p hp
 have hn := best_nodup (goneOf l a1 a2 a3 a4) (countsL a1 a2 a3 a4 l)
 have hg := (getF_mem p.1 p.2 hn).2 hp
 have e := best_get l a1 a2 a3 a4 p.1
 unfold bestOf at e
 rw [e] at hg
 unfold refBest at hg
 obtain ⟨h1, h2, _⟩ := (refBest_spec (goneOf l a1 a2 a3 a4) p.1 (countsL a1 a2 a3 a4 l)).1 p.2 hg
 unfold countsL at h1
 rw [List.mem_filter] at h1
 obtain ⟨hl, hc⟩ := h1
 have hok2 := List.all_eq_true.1 hok p.2 hl
 unfold okF at hok2
 unfold mineB at hc
 cases ht : p.2.f2 with
 | true => rw [ht] at hc; simp at hc
 | false =>
  rw [ht, Bool.false_or] at hok2
  have := (right_f p.2).2 hok2
  omega
def pg (b p pl sq : Int) (c : Bool) : Pg := ⟨b, p, false, ⟨0, 1, pl, sq, 1, c⟩, ⟨#[]⟩⟩
theorem fixed_ok : almshouselaw17_fixed.f = some true := by
 have hz1 : ∀ (l : List Pg) (a1 a2 a3 a4 : Int) (s : List Sp) (g : List Int) (q : Int), l.length ≤ 1000 → a1 ≤ 64 → spotsOf (bestOf l a1 a2 a3 a4) = s → goneOf l a1 a2 a3 a4 = g → seqL (mineL a1 a2 a3 l) = q → heal_Heal.f l a1 a2 a3 a4 = some (s, g, q) := by
  intro l a1 a2 a3 a4 s g q h1 h2 e1 e2 e3
  unfold heal_Heal.f
  rw [if_pos ⟨h1, h2⟩, e1, e2, e3]
 have g1 : goneOf [pg 0 0 3 7 true, pg 1 0 3 7 true] 2 0 1 9 = [0] := by decide +kernel
 have b1 : bestOf [pg 0 0 3 7 true, pg 1 0 3 7 true] 2 0 1 9 = [(3, pg 1 0 3 7 true)] := by kernel_rfl
 have q1 : seqL (mineL 2 0 1 [pg 0 0 3 7 true, pg 1 0 3 7 true]) = 8 := by decide +kernel
 have s1 : spotsOf [(3, pg 1 0 3 7 true)] = [⟨3, 1, 0⟩] := by simp [spotsOf, spotOf, pg]
 have h1 := hz1 [pg 0 0 3 7 true, pg 1 0 3 7 true] 2 0 1 9 _ _ _ (by decide) (by decide) (by rw [b1, s1]) g1 q1
 have g2 : goneOf [pg 0 0 3 7 false, pg 0 1 4 8 false, pg 1 0 3 7 true] 2 0 1 9 = [1] := by decide +kernel
 have b2 : bestOf [pg 0 0 3 7 false, pg 0 1 4 8 false, pg 1 0 3 7 true] 2 0 1 9 = [(3, pg 0 0 3 7 false), (4, pg 0 1 4 8 false)] := by kernel_rfl
 have q2 : seqL (mineL 2 0 1 [pg 0 0 3 7 false, pg 0 1 4 8 false, pg 1 0 3 7 true]) = 9 := by decide +kernel
 have s2 : spotsOf [(3, pg 0 0 3 7 false), (4, pg 0 1 4 8 false)] = [⟨3, 0, 0⟩, ⟨4, 0, 1⟩] := by
  refine (spots_one (by simp) ?_ ?_).symm
  ·exact List.Perm.refl _
  ·simp
 have h2 := hz1 [pg 0 0 3 7 false, pg 0 1 4 8 false, pg 1 0 3 7 true] 2 0 1 9 _ _ _ (by decide) (by decide) (by rw [b2, s2]) g2 q2
 have v0 : voidL 9 (mineL 2 0 1 [pg 1 0 9 0 false]) = [1] := by decide +kernel
 have h3 : heal_Void.f [pg 1 0 9 0 false] 2 0 1 9 = some [1] := by
  unfold heal_Void.f
  rw [if_pos (by decide), v0]
  simp
 unfold pg at h1 h2 h3
 unfold almshouselaw17_fixed.f
 simp only [almshouselaw17_page.f, Option.bind_some, h1, h2, h3]
 decide +kernel
theorem HealTells_ev (l : List Pg) (a1 a2 a3 a4 : Int) (hl0 : l.length ≤ 1599289640401) : Ev (fun k => almshouselaw17_HealTells.f k l a1 a2 a3 a4) true := by
 unfold almshouselaw17_HealTells.f
 refine ev_bind (ev_of fixed_ok) ?_
 simp only [if_true]
 refine ev_bind (may_ok l a1 hl0) ?_
 cases hm : mayB l a1 with
 | false => simp only [Bool.false_eq_true, if_false]; exact ev_const _
 | true =>
  simp only [if_true]
  unfold mayB at hm
  simp only [Bool.and_eq_true, decide_eq_true_eq] at hm
  obtain ⟨hok, hl, h1⟩ := hm
  have hg := goneOf_len l a1 a2 a3 a4 h1
  have hh : heal_Heal.f l a1 a2 a3 a4 = some (spotsOf (bestOf l a1 a2 a3 a4), goneOf l a1 a2 a3 a4, seqL (mineL a1 a2 a3 l)) := by
   unfold heal_Heal.f; rw [if_pos ⟨by omega, h1⟩]
  refine ev_bind (ev_of hh) ?_
  refine ev_bind (Go_ok l a1 a2 a3 a4 (by omega) h1) ?_
  refine ev_bind (same_ok (goneOf l a1 a2 a3 a4) (by omega)) ?_
  simp only [if_true]
  refine ev_bind (Seq_ok l a1 a2 a3 (by omega)) ?_
  refine ev_succ (fun k => by rw [almshouselaw17_HealTells.j0]) ?_
  simp only [bne_self_eq_false, Bool.false_eq_true, if_false]
  rw [show spotsOf (bestOf l a1 a2 a3 a4) = spotsTo (bestOf l a1 a2 a3 a4) 64 from spots_eq _ (best_nodup _ _) (best_keys l a1 a2 a3 a4 hok)]
  obtain ⟨best, hbest⟩ : ∃ best, bestOf l a1 a2 a3 a4 = best := ⟨_, rfl⟩
  rw [hbest]
  have hlen : (spotsTo best 64).length ≤ 64 := by
   have : (spotsTo best 64).length ≤ (List.range 64).length := List.length_filterMap_le _ _
   simpa using this
  have pre : ∀ d p, p + d = 64 → (spotsTo best p).length ≤ (spotsTo best 64).length ∧ ∀ i, i < (spotsTo best p).length → (spotsTo best 64)[i]? = (spotsTo best p)[i]? := by
   intro d
   induction d with
   | zero => intro p hp; obtain rfl : p = 64 := (by omega); exact ⟨Nat.le_refl _, fun _ _ => rfl⟩
   | succ d ih =>
    intro p hp
    obtain ⟨g1, g2⟩ := ih (p + 1) (by omega)
    rw [spotsTo_succ] at g1 g2
    rw [List.length_append] at g1
    refine ⟨by omega, fun i hi => ?_⟩
    rw [g2 i (by rw [List.length_append]; omega), List.getElem?_append_left hi]
  have key : ∀ d p, p + d = 64 → Ev (fun k => almshouselaw17_HealTells.l0 k l a1 a2 a3 a4 ((spotsTo best p).length : Int) (p : Int) (spotsTo best 64) (goneOf l a1 a2 a3 a4) (seqL (mineL a1 a2 a3 l))) true := by
   intro d
   induction d with
   | zero =>
    intro p hp
    obtain rfl : p = 64 := by omega
    refine ev_succ (fun k => by rw [almshouselaw17_HealTells.l0]) ?_
    simp only [if_neg (show ¬ ((64 : Nat) : Int) < 64 by omega), beq_self_eq_true]
    exact ev_const _
   | succ d ih =>
    intro p hp
    have i1 := ih (p + 1) (by omega)
    refine ev_succ (fun k => by rw [almshouselaw17_HealTells.l0]) ?_
    simp only [if_pos (show (p : Int) < 64 by omega)]
    have hb : almshouseref17_Best.f l a1 a2 a3 a4 (p : Int) = some (tup (getF (p : Int) best)) := by
     unfold almshouseref17_Best.f; rw [if_pos ⟨by omega, h1⟩, ← best_get, hbest]
    refine ev_bind (ev_of hb) ?_
    rw [spotsTo_succ] at i1
    unfold spotAt at i1
    have hp2 := pre d (p + 1) (by omega)
    rw [spotsTo_succ] at hp2
    unfold spotAt at hp2
    cases hgp : getF (p : Int) best with
    | none =>
     rw [hgp] at i1
     simp only [Option.map_none, Option.toList_none, List.append_nil] at i1
     simp only [tup, Option.isSome_none, Bool.false_eq_true, if_false, nx (j := p) (by omega)]
     exact i1
    | some g =>
     rw [hgp] at i1 hp2
     simp only [Option.map_some, Option.toList_some] at i1 hp2
     rw [List.length_append, List.length_singleton] at i1
     have hlt : (spotsTo best p).length < (spotsTo best 64).length := by
      have := hp2.1; rw [List.length_append, List.length_singleton] at this; omega
     have hat := hp2.2 (spotsTo best p).length (by simp)
     rw [List.getElem?_append_right (Nat.le_refl _), Nat.sub_self] at hat
     have hat2 : (spotsTo best 64)[(spotsTo best p).length] = ⟨(p : Int), g.f0, g.f1⟩ := by
      rw [List.getElem?_eq_getElem hlt] at hat
      exact Option.some.inj hat
     simp only [tup, Option.isSome_some, if_true, Option.getD_some]
     simp only [if_neg (show ¬ ((spotsTo best p).length : Int) ≥ ((spotsTo best 64).length : Int) by omega), if_pos (show (0 : Int) ≤ ((spotsTo best p).length : Int) by omega), if_pos (show ((spotsTo best p).length : Int) < ((spotsTo best 64).length : Int) by omega), rdS hlt, hat2, beq_self_eq_true, Bool.not_true, Bool.or_self, Bool.false_eq_true, if_false, nx (j := (spotsTo best p).length) (by omega), nx (j := p) (by omega)]
     exact i1
  have := key 64 0 (by omega)
  exact this
end Go.Proofs.Ytdmbibjgiehboaa.Hl
