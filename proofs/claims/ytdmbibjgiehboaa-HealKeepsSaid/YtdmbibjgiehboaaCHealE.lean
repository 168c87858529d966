-- Cut by a program of this session (wip/pr/pack.py) to what one claim needs.
import Derived.Test.YtdmbibjgiehboaaCHealD
import Derived.Test.YtdmbibjgiehboaaCPx15
namespace Go.Proofs.Ytdmbibjgiehboaa.Hl
open Go.RowKit Go.Proofs.YtdmbibjgiehboaaW.PrintWords Go.Proofs.YtdmbibjgiehboaaW.PrintLast Go.Proofs.YtdmbibjgiehboaaW.PrintMore Go.Proofs.Ytdmbibjgiehboaa.P Go.Proofs.Ytdmbibjgiehboaa.X Go.Proofs.Ytdmbibjgiehboaa.Gen
set_option linter.unusedVariables false
set_option linter.unusedSimpArgs false
set_option linter.unusedSectionVars false
theorem gone_keeps (some_ : Int → Bool) (cs : List Pg) : ∀ (d b : Nat) (out : List Int), (∀ f, f ∈ cs → ∃ g, g ∈ cs ∧ ¬ g.f0 ∈ out ∧ g.f3.f2 = f.f3.f2 ∧ f.f3.f3 ≤ g.f3.f3) → ∀ f, f ∈ cs → ∃ g, g ∈ cs ∧ ¬ g.f0 ∈ goneL some_ cs d b out ∧ g.f3.f2 = f.f3.f2 ∧ f.f3.f3 ≤ g.f3.f3
 | 0, b, out, h => h
 | d + 1, b, out, h => by
  rw [goneL]
  cases hc : some_ (b : Int) && !cs.any (keepsB (b : Int) cs out) with
  | false => exact gone_keeps some_ cs d (b + 1) out h
  | true =>
   rw [if_pos rfl]
   refine gone_keeps some_ cs d (b + 1) (out ++ [(b : Int)]) (fun f hf => ?_)
   simp only [Bool.and_eq_true, Bool.not_eq_true', List.any_eq_false] at hc
   obtain ⟨g, hg, hgo, hgp, hgs⟩ := h f hf
   by_cases hb : g.f0 = (b : Int)
   ·have hk := hc.2 g hg
    unfold keepsB neededB at hk
    rw [decide_eq_true hb, Bool.true_and] at hk
    simp only [Bool.not_eq_true, Bool.not_eq_false', List.any_eq_true] at hk
    obtain ⟨g', hg', hst⟩ := hk
    unfold standsB at hst
    simp only [Bool.and_eq_true, decide_eq_true_eq, Bool.not_eq_true', decide_eq_false_iff_not] at hst
    obtain ⟨s1, s2, s3, s4⟩ := hst
    refine ⟨g', hg', ?_, by rw [s2]; exact hgp, by omega⟩
    rw [List.mem_append, List.mem_singleton]
    rintro (h1 | h1)
    ·exact s4 h1
    ·exact s1 (by rw [h1, hb])
   ·refine ⟨g, hg, ?_, hgp, hgs⟩
    rw [List.mem_append, List.mem_singleton]
    rintro (h1 | h1)
    ·exact hgo h1
    ·exact hb h1
theorem seqL_ge (ml : List Pg) : ∀ f, f ∈ ml → wrap64 (f.f3.f3 + 1) ≤ seqL ml := by
 have mono : ∀ (ml : List Pg) (n : Int), n ≤ ml.foldl seqStep n := by
  intro ml
  induction ml with
  | nil => intro n; exact Int.le_refl _
  | cons x ml ih =>
   intro n
   rw [List.foldl_cons]
   have := ih (seqStep n x)
   have h2 : n ≤ seqStep n x := by unfold seqStep; omega
   omega
 have key : ∀ (ml : List Pg) (n : Int) (f : Pg), f ∈ ml → wrap64 (f.f3.f3 + 1) ≤ ml.foldl seqStep n := by
  intro ml
  induction ml with
  | nil => intro n f h; cases h
  | cons x ml ih =>
   intro n f h
   rw [List.foldl_cons]
   rcases List.mem_cons.1 h with rfl | h
   ·have := mono ml (seqStep n f)
    have h2 : wrap64 (f.f3.f3 + 1) ≤ seqStep n f := by unfold seqStep; omega
    omega
   ·exact ih _ f h
 exact fun f h => key ml 0 f h
def qB (a2 a3 : Int) (s : Sp) (f g : Pg) : Bool := decide (g.f0 = s.f1) && (decide (g.f1 = s.f2) && (mineB a2 a3 g && (decide (g.f3.f2 = s.f0) && decide (f.f3.f3 ≤ g.f3.f3))))
section
variable (l : List Pg) (a1 a2 a3 a4 : Int) (hl : l.length ≤ 1000) (spots : List Sp) (hsp : spots.length ≤ 1000) (gone : List Int) (hgo : gone.length ≤ 1000) (seq : Int) (j : Nat) (hj : j ≤ 1000) (f : Pg)
include hl hsp hgo hj
theorem hk_l3 (s : Sp) (hs : ¬ s.f1 ∈ gone) (x14 : Bool) (si : Nat) (r : Bool) : ∀ (d i : Nat), i + d = gone.length →
  Ev (fun k => almshouselaw17_HealKeeps.l1 k l a1 a2 a3 a4 x14 l (l.length : Int) (j : Int) spots (spots.length : Int) (wrap64 ((si : Int) + 1)) spots gone seq f.f0 f.f1 f.f2 f.f3.f0 f.f3.f1 f.f3.f2 f.f3.f3 f.f3.f4 f.f3.f5 f.f4) r →
  Ev (fun k => almshouselaw17_HealKeeps.l3 k l a1 a2 a3 a4 x14 l (l.length : Int) (j : Int) spots (spots.length : Int) (si : Int) gone (gone.length : Int) (i : Int) spots gone seq f.f0 f.f1 f.f2 f.f3.f0 f.f3.f1 f.f3.f2 f.f3.f3 f.f3.f4 f.f3.f5 f.f4 s.f0 s.f1 s.f2) r := by
 intro d
 induction d with
 | zero =>
  intro i hi H
  obtain rfl : i = gone.length := by omega
  refine ev_succ (fun k => by rw [almshouselaw17_HealKeeps.l3]) ?_
  simp only [Int.lt_irrefl, if_false]
  exact H
 | succ d ih =>
  intro i hi H
  have hlt : i < gone.length := by omega
  refine ev_succ (fun k => by rw [almshouselaw17_HealKeeps.l3]) ?_
  have hne : ¬ gone[i] = s.f1 := fun e => hs (by rw [← e]; exact List.getElem_mem _)
  simp only [if_pos (show (i : Int) < (gone.length : Int) by omega), if_pos (show (0 : Int) ≤ (i : Int) by omega), rd_nat hlt, if_neg hne, nx (j := i) (by omega)]
  exact ih (i + 1) (by omega) H
theorem hk_l2 (s : Sp) (hs : ¬ s.f1 ∈ gone) (si : Nat) (r : Bool) : ∀ (d i : Nat) (x14 : Bool), i + d = l.length →
  Ev (fun k => almshouselaw17_HealKeeps.l1 k l a1 a2 a3 a4 (x14 || (l.drop i).any (qB a2 a3 s f)) l (l.length : Int) (j : Int) spots (spots.length : Int) (wrap64 ((si : Int) + 1)) spots gone seq f.f0 f.f1 f.f2 f.f3.f0 f.f3.f1 f.f3.f2 f.f3.f3 f.f3.f4 f.f3.f5 f.f4) r →
  Ev (fun k => almshouselaw17_HealKeeps.l2 k l a1 a2 a3 a4 x14 l (l.length : Int) (j : Int) spots (spots.length : Int) (si : Int) l (l.length : Int) (i : Int) spots gone seq f.f0 f.f1 f.f2 f.f3.f0 f.f3.f1 f.f3.f2 f.f3.f3 f.f3.f4 f.f3.f5 f.f4 s.f0 s.f1 s.f2) r := by
 intro d
 induction d with
 | zero =>
  intro i x14 hi H
  obtain rfl : i = l.length := by omega
  rw [List.drop_length, List.any_nil, Bool.or_false] at H
  refine ev_succ (fun k => by rw [almshouselaw17_HealKeeps.l2]) ?_
  simp only [Int.lt_irrefl, if_false]
  exact hk_l3 l a1 a2 a3 a4 hl spots hsp gone hgo seq j hj f s hs x14 si r gone.length 0 (by omega) H
 | succ d ih =>
  intro i x14 hi H
  have hlt : i < l.length := by omega
  rw [List.drop_eq_getElem_cons hlt, List.any_cons] at H
  refine ev_succ (fun k => by rw [almshouselaw17_HealKeeps.l2]) ?_
  simp only [if_pos (show (i : Int) < (l.length : Int) by omega), if_pos (show (0 : Int) ≤ (i : Int) by omega), rdF hlt, nx (j := i) (by omega)]
  cases x14 with
  | true =>
   simp only [if_true]
   refine ih (i + 1) true (by omega) ?_
   simpa only [Bool.true_or] using H
  | false =>
   simp only [Bool.false_eq_true, if_false]
   rw [Bool.false_or] at H
   have no : qB a2 a3 s f l[i] = false → Ev (fun k => almshouselaw17_HealKeeps.l2 k l a1 a2 a3 a4 false l (l.length : Int) (j : Int) spots (spots.length : Int) (si : Int) l (l.length : Int) ((i + 1 : Nat) : Int) spots gone seq f.f0 f.f1 f.f2 f.f3.f0 f.f3.f1 f.f3.f2 f.f3.f3 f.f3.f4 f.f3.f5 f.f4 s.f0 s.f1 s.f2) r := by
    intro hq
    rw [hq, Bool.false_or] at H
    refine ih (i + 1) false (by omega) ?_
    rw [Bool.false_or]; exact H
   by_cases h1 : (l[i]).f0 = s.f1
   ·refine ev_pos h1 ?_
    by_cases h2 : (l[i]).f1 = s.f2
    ·refine ev_pos h2 ?_
     refine ev_bind (ev_of (rmine_f a2 a3 l[i])) ?_
     cases hm : mineB a2 a3 l[i] with
     | true =>
      simp only [if_true]
      by_cases h3 : (l[i]).f3.f2 = s.f0
      ·refine ev_pos h3 ?_
       have e : qB a2 a3 s f l[i] = decide ((l[i]).f3.f3 ≥ f.f3.f3) := by
        unfold qB; rw [decide_eq_true h1, decide_eq_true h2, hm, decide_eq_true h3]; rfl
       rw [e] at H
       exact ih (i + 1) _ (by omega) H
      ·refine ev_neg h3 ?_
       exact no (by unfold qB; rw [decide_eq_false h3]; simp)
     | false =>
      simp only [Bool.false_eq_true, if_false]
      exact no (by unfold qB; rw [hm]; simp)
    ·refine ev_neg h2 ?_
     exact no (by unfold qB; rw [decide_eq_false h2]; simp)
   ·refine ev_neg h1 ?_
    exact no (by unfold qB; rw [decide_eq_false h1]; simp)
theorem hk_l1 (hgone : ∀ s, s ∈ spots → s.f0 = f.f3.f2 → ¬ s.f1 ∈ gone) (hseq : f.f3.f3 < seq)
  (H : Ev (fun k => almshouselaw17_HealKeeps.l0 k l a1 a2 a3 a4 l (l.length : Int) (wrap64 ((j : Int) + 1)) spots gone seq) true) : ∀ (d i : Nat) (x14 : Bool), i + d = spots.length →
  (x14 || (spots.drop i).any fun s => decide (s.f0 = f.f3.f2) && l.any (qB a2 a3 s f)) = true →
  Ev (fun k => almshouselaw17_HealKeeps.l1 k l a1 a2 a3 a4 x14 l (l.length : Int) (j : Int) spots (spots.length : Int) (i : Int) spots gone seq f.f0 f.f1 f.f2 f.f3.f0 f.f3.f1 f.f3.f2 f.f3.f3 f.f3.f4 f.f3.f5 f.f4) true := by
 intro d
 induction d with
 | zero =>
  intro i x14 hi hx
  obtain rfl : i = spots.length := by omega
  rw [List.drop_length, List.any_nil, Bool.or_false] at hx
  subst hx
  refine ev_succ (fun k => by rw [almshouselaw17_HealKeeps.l1]) ?_
  simp only [Int.lt_irrefl, if_false, if_true]
  refine ev_neg (by omega) ?_
  exact H
 | succ d ih =>
  intro i x14 hi hx
  have hlt : i < spots.length := by omega
  rw [List.drop_eq_getElem_cons hlt, List.any_cons] at hx
  refine ev_succ (fun k => by rw [almshouselaw17_HealKeeps.l1]) ?_
  simp only [if_pos (show (i : Int) < (spots.length : Int) by omega), if_pos (show (0 : Int) ≤ (i : Int) by omega), rdS hlt]
  by_cases h1 : (spots[i]).f0 = f.f3.f2
  ·refine ev_pos h1 ?_
   refine hk_l2 l a1 a2 a3 a4 hl spots hsp gone hgo seq j hj f spots[i] (hgone _ (List.getElem_mem _) h1) i true l.length 0 x14 (by omega) ?_
   rw [List.drop_zero, nx (j := i) (by omega)]
   refine ih (i + 1) _ (by omega) ?_
   rw [decide_eq_true h1, Bool.true_and, ← Bool.or_assoc] at hx
   exact hx
  ·refine ev_neg h1 ?_
   rw [nx (j := i) (by omega)]
   refine ih (i + 1) _ (by omega) ?_
   rw [decide_eq_false h1, Bool.false_and, Bool.false_or] at hx
   exact hx
end
theorem HealKeeps_ev (l : List Pg) (a1 a2 a3 a4 : Int) (hl0 : l.length ≤ 1599289640401) : Ev (fun k => almshouselaw17_HealKeeps.f k l a1 a2 a3 a4) true := by
 unfold almshouselaw17_HealKeeps.f
 refine ev_bind (ev_of fixed_ok) ?_
 simp only [if_true]
 refine ev_bind (may_ok l a1 hl0) ?_
 cases hm : mayB l a1 with
 | false => simp only [Bool.false_eq_true, if_false]; exact ev_const _
 | true =>
  simp only [if_true]
  unfold mayB at hm
  simp only [Bool.and_eq_true, decide_eq_true_eq] at hm
  obtain ⟨hok, hl, h1⟩ := hm
  have hg := goneOf_len l a1 a2 a3 a4 h1
  have hh : heal_Heal.f l a1 a2 a3 a4 = some (spotsOf (bestOf l a1 a2 a3 a4), goneOf l a1 a2 a3 a4, seqL (mineL a1 a2 a3 l)) := by
   unfold heal_Heal.f; rw [if_pos ⟨by omega, h1⟩]
  refine ev_bind (ev_of hh) ?_
  rw [show spotsOf (bestOf l a1 a2 a3 a4) = spotsTo (bestOf l a1 a2 a3 a4) 64 from spots_eq _ (best_nodup _ _) (best_keys l a1 a2 a3 a4 hok)]
  have hlen : (spotsTo (bestOf l a1 a2 a3 a4) 64).length ≤ 64 := by
   have : (spotsTo (bestOf l a1 a2 a3 a4) 64).length ≤ (List.range 64).length := List.length_filterMap_le _ _
   simpa using this
  have key : ∀ (d i : Nat), i + d = l.length → Ev (fun k => almshouselaw17_HealKeeps.l0 k l a1 a2 a3 a4 l (l.length : Int) (i : Int) (spotsTo (bestOf l a1 a2 a3 a4) 64) (goneOf l a1 a2 a3 a4) (seqL (mineL a1 a2 a3 l))) true := by
   intro d
   induction d with
   | zero =>
    intro i hi
    obtain rfl : i = l.length := by omega
    refine ev_succ (fun k => by rw [almshouselaw17_HealKeeps.l0]) ?_
    simp only [Int.lt_irrefl, if_false]
    exact ev_const _
   | succ d ih =>
    intro i hi
    have hlt : i < l.length := by omega
    have i1 := ih (i + 1) (by omega)
    have skip : ∀ f : Pg, Ev (fun k => almshouselaw17_HealKeeps.j1 k l a1 a2 a3 a4 l (l.length : Int) (i : Int) true (spotsTo (bestOf l a1 a2 a3 a4) 64) (goneOf l a1 a2 a3 a4) (seqL (mineL a1 a2 a3 l)) f.f0 f.f1 f.f2 f.f3.f0 f.f3.f1 f.f3.f2 f.f3.f3 f.f3.f4 f.f3.f5 f.f4) true := by
     intro f
     refine ev_succ (fun k => by rw [almshouselaw17_HealKeeps.j1]) ?_
     simp only [if_true, nx (j := i) (by omega)]
     exact i1
    refine ev_succ (fun k => by rw [almshouselaw17_HealKeeps.l0]) ?_
    simp only [if_pos (show (i : Int) < (l.length : Int) by omega), if_pos (show (0 : Int) ≤ (i : Int) by omega), rdF hlt]
    by_cases c1 : (l[i]).f0 < 0
    ·exact ev_pos c1 (skip l[i])
    ·refine ev_neg c1 ?_
     by_cases c2 : (l[i]).f0 ≥ a1
     ·exact ev_pos c2 (skip l[i])
     ·refine ev_neg c2 ?_
      refine ev_bind (ev_of (rmine_f a2 a3 l[i])) ?_
      cases hmn : mineB a2 a3 l[i] with
      | false => simp only [Bool.false_eq_true, if_false]; exact skip l[i]
      | true =>
       simp only [if_true]
       by_cases c3 : (l[i]).f3.f2 ≥ a4
       ·rw [decide_eq_true c3]; exact skip l[i]
       ·rw [decide_eq_false c3]
        obtain ⟨f, hf⟩ : ∃ f, l[i] = f := ⟨_, rfl⟩
        have hfl : f ∈ l := by rw [← hf]; exact List.getElem_mem _
        rw [hf] at c1 c2 hmn c3 ⊢
        have hin : inB a1 f = true := decide_eq_true (by omega)
        have hfc : f ∈ countsL a1 a2 a3 a4 l := by
         unfold countsL
         rw [List.mem_filter]
         exact ⟨hfl, by rw [hin, hmn, decide_eq_true (by omega)]; rfl⟩
        have hfm : f ∈ mineL a1 a2 a3 l := by
         unfold mineL
         rw [List.mem_filter]
         exact ⟨hfl, by rw [hin, hmn]; rfl⟩
        obtain ⟨g, hgc, hgo, hgp, hgs⟩ := gone_keeps (hasKey (mapOf a1 l)) (countsL a1 a2 a3 a4 l) (max a1 0).toNat 0 [] (fun f hf => ⟨f, hf, by simp, rfl, Int.le_refl _⟩) f hfc
        have spec := refBest_spec (goneOf l a1 a2 a3 a4) f.f3.f2 (countsL a1 a2 a3 a4 l)
        obtain ⟨b, hb, hbs⟩ := spec.2 g hgc hgp hgo
        obtain ⟨hb1, hb2, hb3⟩ := spec.1 b hb
        have hget : getF f.f3.f2 (bestOf l a1 a2 a3 a4) = some b := by rw [best_get]; exact hb
        have hfok : 0 ≤ f.f3.f2 ∧ f.f3.f2 ≤ 63 ∧ 0 ≤ f.f3.f3 ∧ f.f3.f3 < 2147483648 := by
         have hok2 := List.all_eq_true.1 hok f hfl
         unfold okF at hok2
         unfold mineB at hmn
         cases ht : f.f2 with
         | true => rw [ht] at hmn; simp at hmn
         | false => rw [ht, Bool.false_or] at hok2; exact (right_f f).2 hok2
        have hbl : b ∈ l ∧ mineB a2 a3 b = true := by
         unfold countsL at hb1
         rw [List.mem_filter] at hb1
         simp only [Bool.and_eq_true] at hb1
         exact ⟨hb1.1, hb1.2.2.1⟩
        refine ev_succ (fun k => by rw [almshouselaw17_HealKeeps.j1]) ?_
        simp only [Bool.false_eq_true, if_false]
        refine hk_l1 l a1 a2 a3 a4 (by omega) (spotsTo (bestOf l a1 a2 a3 a4) 64) (by omega) (goneOf l a1 a2 a3 a4) (by omega) (seqL (mineL a1 a2 a3 l)) i (by omega) f ?_ ?_ ?_ (spotsTo (bestOf l a1 a2 a3 a4) 64).length 0 false (by omega) ?_
        ·intro s hs hsp
         obtain ⟨q, hq, x, hx, rfl⟩ := (spotsTo_mem _ _ _).1 hs
         have e : (q : Int) = f.f3.f2 := hsp
         rw [e, hget] at hx
         have := Option.some.inj hx
         subst this
         exact hb3
        ·have := seqL_ge (mineL a1 a2 a3 l) f hfm
         rw [w64 (by omega) (by omega)] at this
         omega
        ·rw [nx (j := i) (by omega)]; exact i1
        ·rw [List.drop_zero, Bool.false_or, List.any_eq_true]
         refine ⟨⟨f.f3.f2, b.f0, b.f1⟩, (spotsTo_mem _ _ _).2 ⟨f.f3.f2.toNat, by omega, b, ?_, ?_⟩, ?_⟩
         ·rw [show ((f.f3.f2.toNat : Nat) : Int) = f.f3.f2 by omega]; exact hget
         ·rw [show ((f.f3.f2.toNat : Nat) : Int) = f.f3.f2 by omega]
         ·rw [Bool.and_eq_true]
          refine ⟨decide_eq_true rfl, List.any_eq_true.2 ⟨b, hbl.1, ?_⟩⟩
          unfold qB
          rw [decide_eq_true rfl, decide_eq_true rfl, hbl.2, decide_eq_true hb2, decide_eq_true (by omega)]; rfl
  have := key l.length 0 (by omega)
  exact this
end Go.Proofs.Ytdmbibjgiehboaa.Hl
