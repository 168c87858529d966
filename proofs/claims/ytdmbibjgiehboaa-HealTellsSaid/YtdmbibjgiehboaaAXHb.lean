-- Cut by a program of this session (wip/pr/pack.py) to what one claim needs.
import Derived.Test.YtdmbibjgiehboaaAXHa
import Derived.Test.YtdmbibjgiehboaaAShelf
namespace Go.Proofs.Ytdmbibjgiehboaa.X
open Go.RowKit Go.Shelf Go.Lib Go.Sort Go.Proofs.YtdmbibjgiehboaaW.PrintWords Go.Proofs.YtdmbibjgiehboaaW.PrintLast Go.Proofs.YtdmbibjgiehboaaW.PrintMore Go.Proofs.Ytdmbibjgiehboaa.P
set_option linter.unusedVariables false
set_option linter.unusedSimpArgs false
instance : Inhabited Fd := ⟨z36⟩
def encF (x : Fd) : List Value := [.int .i64 x.f0, .int .i64 x.f1, .bool x.f2, .int .i64 x.f3.f0, .int .i64 x.f3.f1, .int .i64 x.f3.f2, .int .i64 x.f3.f3, .int .i64 x.f3.f4, .bool x.f3.f5, .string x.f4]
theorem xadd' (ad : Addr) (j : Nat) (h : ad.spot = none) : ad.add j = ⟨ad.block, ad.off + j, none⟩ := by
 cases ad with
 | mk b o s => simp only at h; subst h; unfold Addr.add; split <;> simp_all
theorem fcells {w : World} {A : Option Addr} {n : Nat} {l : List Fd} (h : Kd.C k36 w A n l) (hn : 0 < n) :
  ∃ b o, A = some ⟨b, o, none⟩ ∧ b < w.heap.size ∧ ∀ j, j < l.length → ∀ i v, (encF l[j]!)[i]? = some v → w.cell? ⟨b, o + j * 10 + i, none⟩ = some v := by
 obtain ⟨hl, _, hc0⟩ := h
 obtain ⟨ad, rfl, hc⟩ := hc0 hn
 have key : ∀ j, j < l.length → ∀ i v, (encF l[j]!)[i]? = some v → w.cell? (ad.add (j * 10 + i)) = some v := by
  intro j hj i v hi
  obtain ⟨c, hs, hr, hcell⟩ := hc j l[j] (List.getElem?_eq_getElem hj)
  have hr' := k36_open hr
  subst hr'
  rw [getElem!_pos l j hj] at hi
  exact hcell i v hi
 have hs : ad.spot = none := by
  have h0 := key 0 (by omega) 0 _ rfl
  have e0 : ad.add (0 * 10 + 0) = ad := rfl
  rw [e0] at h0
  cases hsp : ad.spot with
  | none => rfl
  | some s =>
   unfold World.cell? at h0
   split at h0
   ·rw [hsp] at h0; simp at h0
   ·simp at h0
 have hb : ad.block < w.heap.size := World.block_lt_of_cell? _ _ (key 0 (by omega) 0 _ rfl)
 refine ⟨ad.block, ad.off, ?_, hb, fun j hj i v hi => ?_⟩
 ·cases ad; simp only at hs; subst hs; rfl
 ·have := key j hj i v hi
  rw [xadd' ad _ hs] at this
  rw [Nat.add_assoc]
  exact this
set_option maxHeartbeats 1000000 in
theorem indexF_nil (A : Option Addr) (c : Nat) (u : Value) (w : World) :
  Calls Try.prog 40 #[.slice A 0 c, u] w fun e w' => e = .returned (.int .i64 (-1)) ∧ w = w' := by
 go_enter Try.func40, Try.ntmps40
 go_wp2
 go_loop [5, 8] (fun _ s8 => s8 = .int .i64 0) (fun _ _ => 0)
 case atStart => exact rfl
 case round =>
  obtain rfl := hrel
  go_wp2
  go_ret
  exact ⟨rfl, rfl⟩
set_option maxHeartbeats 1000000 in
theorem containsF_nil (A : Option Addr) (c : Nat) (u : Value) (w : World) :
  Calls Try.prog 31 #[.slice A 0 c, u] w fun e w' => e = .returned (.bool false) ∧ w = w' := by
 go_enter Try.func31, Try.ntmps31
 go_wp2_with (go_at_call 40; refine (indexF_nil _ _ _ _).mono ?_; rintro e w' ⟨rfl, rfl⟩)
 go_ret
 exact ⟨rfl, rfl⟩
theorem containsF_calls (A : Option Addr) (c : Nat) (l : List Fd) (g : Nat) (lb : Array Value) (p : Fd → Bool) (w : World) (hr : Kd.C k36 w A l.length l)
  (eg : ∀ args w, (callFunc g args).run Try.prog w = .ok (.enter g args) w) (hp : PredBelow Try.prog g lb (fun x => .agg (encF x).toArray) p w) :
  Calls Try.prog 31 #[.slice A l.length c, .func (.func g) #[] lb] w fun e w' => e = .returned (.bool (l.any p)) ∧ Below w.heap.size w w' := by
 rcases Nat.eq_zero_or_pos l.length with h0 | h0
 ·have h0' := List.eq_nil_of_length_eq_zero h0
  subst h0'
  refine (containsF_nil A c _ w).mono ?_
  rintro e w' ⟨rfl, rfl⟩
  exact ⟨rfl, Below.refl _ _⟩
 ·obtain ⟨b, o, rfl, hb, hc⟩ := fcells hr h0
  have := AnyQ.slices_ContainsFunc Try.containsFd 10 Try.isAgg36 Try.sizeOf36 encF (fun _ => rfl) p g lb eg b o l.length c l w hp (Nat.le_refl _) hr.2.1 hb hc
  rw [List.take_length] at this
  exact this
def neededB (counts : List Fd) (gone : List Int) (f : Fd) : Bool := !counts.any (standsB f gone)
theorem need1_pred (bf bg : Nat) (f : Fd) (A : Option Addr) (c : Nat) (gone : List Int) (w : World) (hc : gone.length ≤ c) (hC : Kd.C (Kd.int .i64) w A gone.length gone)
  (h0 : w.cell? ⟨bf, 0, none⟩ = some (.int .i64 f.f0)) (h5 : w.cell? ⟨bf, 5, none⟩ = some (.int .i64 f.f3.f2)) (h6 : w.cell? ⟨bf, 6, none⟩ = some (.int .i64 f.f3.f3))
  (hg : w.cell? ⟨bg, 0, none⟩ = some (.slice A gone.length c)) :
  PredBelow Try.prog 39 #[.pointer (some ⟨bf, 0, none⟩), .pointer (some ⟨bg, 0, none⟩)] (fun x => .agg (encF x).toArray) (standsB f gone) w := fun W x hb =>
 (need1_calls bf bg f x A c gone W hc (Kd.C_below hC hb) (pw_cell_below hb h0) (pw_cell_below hb h5) (pw_cell_below hb h6) (pw_cell_below hb hg)).mono fun e w' ⟨h1, h2⟩ => ⟨h1, below_then hb hb.size h2⟩
set_option maxHeartbeats 3200000 in
set_option maxRecDepth 100000 in
theorem needed_calls (bl : Int) (vs vm : Value) (A : Option Addr) (c : Nat) (counts : List Fd) (f : Fd) (G : Option Addr) (gc : Nat) (gone : List Int) (w : World)
  (hr : Kd.C k36 w A counts.length counts) (hC : Kd.C (Kd.int .i64) w G gone.length gone) (hgc : gone.length ≤ gc) (hvs : vs.oneCell' = true) (hvm : vm.oneCell' = true) :
  Calls Try.prog 30 #[.agg #[.int .i64 bl, vs, .slice A counts.length c, vm], .agg #[.int .i64 f.f0, .int .i64 f.f1, .bool f.f2, .int .i64 f.f3.f0, .int .i64 f.f3.f1, .int .i64 f.f3.f2, .int .i64 f.f3.f3, .int .i64 f.f3.f4, .bool f.f3.f5, .string f.f4], .slice G gone.length gc] w
   fun e w' => e = .returned (.bool (neededB counts gone f)) ∧ Below w.heap.size w w' := by
 have hu := Try.underlying47
 have hu2 := Try.underlying36
 have HR := Lib.hid hr
 have HC := Lib.hid hC
 clear hr hC
 have eg : ∀ args w, (callFunc 39 args).run Try.prog w = .ok (.enter 39 args) w := enters_of Try.func39 (by kernel_rfl) rfl
 have EG := Lib.hid eg
 clear eg
 go_enter Try.func30, Try.ntmps30
 go_wp2_with fail
 refine (containsF_calls A c counts 39 _ (standsB f gone) _ (Kd.C_alloc (Kd.C_alloc (Kd.C_alloc HR.out _) _) _) EG.out
  (need1_pred (w.heap.size + 1) (w.heap.size + 2) f G gc gone _ hgc (Kd.C_alloc (Kd.C_alloc (Kd.C_alloc HC.out _) _) _) (by go_simp) (by go_simp) (by go_simp) (by go_simp))).mono ?_
 rintro e w' ⟨rfl, hb⟩
 have HB := Lib.hid (below_then (((((Below.refl w.heap.size w).alloc (Nat.le_refl _) _).alloc (by simp) _).alloc (by simp; omega) _)) (by simp; omega) hb)
 clear hb
 go_wp2
 go_ret
 exact ⟨rfl, HB.out⟩
def keepsB (b : Int) (counts : List Fd) (gone : List Int) (f : Fd) : Bool := decide (f.f0 = b) && neededB counts gone f
set_option maxHeartbeats 3200000 in
set_option maxRecDepth 100000 in
theorem gone1_calls (bb bw bo : Nat) (b bl : Int) (mb : Option Nat) (vm : Value) (A : Option Addr) (c : Nat) (counts : List Fd) (f : Fd) (G : Option Addr) (gc : Nat) (gone : List Int) (w : World)
  (hr : Kd.C k36 w A counts.length counts) (hC : Kd.C (Kd.int .i64) w G gone.length gone) (hgc : gone.length ≤ gc) (hvm : vm.oneCell' = true)
  (h0 : w.cell? ⟨bb, 0, none⟩ = some (.int .i64 b)) (hw0 : w.cell? ⟨bw, 0, none⟩ = some (.int .i64 bl)) (hw1 : w.cell? ⟨bw, 1, none⟩ = some (.map mb)) (hw2 : w.cell? ⟨bw, 2, none⟩ = some (.slice A counts.length c)) (hw3 : w.cell? ⟨bw, 3, none⟩ = some vm)
  (hg : w.cell? ⟨bo, 0, none⟩ = some (.slice G gone.length gc)) :
  Calls Try.prog 29 #[.agg #[.int .i64 f.f0, .int .i64 f.f1, .bool f.f2, .int .i64 f.f3.f0, .int .i64 f.f3.f1, .int .i64 f.f3.f2, .int .i64 f.f3.f3, .int .i64 f.f3.f4, .bool f.f3.f5, .string f.f4], .pointer (some ⟨bb, 0, none⟩), .pointer (some ⟨bw, 0, none⟩), .pointer (some ⟨bo, 0, none⟩)] w
   fun e w' => e = .returned (.bool (keepsB b counts gone f)) ∧ Below w.heap.size w w' := by
 have hu := Try.underlying47
 have hu2 := Try.underlying36
 have HR := Lib.hid hr
 have HC := Lib.hid hC
 clear hr hC
 have hbb : bb < w.heap.size := World.block_lt_of_cell? _ ⟨bb, 0, none⟩ h0
 have hbw : bw < w.heap.size := World.block_lt_of_cell? _ ⟨bw, 0, none⟩ hw0
 have hbo : bo < w.heap.size := World.block_lt_of_cell? _ ⟨bo, 0, none⟩ hg
 by_cases c1 : f.f0 = b
 ·have b0 : (f.f0 == b) = true := beq_iff_eq.mpr c1
  have ES := Lib.hid (show keepsB b counts gone f = neededB counts gone f by unfold keepsB; simp [c1])
  clear c1
  go_enter Try.func29, Try.ntmps29
  go_wp2_with (go_at_call 30; refine (needed_calls bl (.map mb) vm A c counts f G gc gone _ (Kd.C_alloc HR.out _) (Kd.C_alloc HC.out _) hgc rfl hvm).mono ?_; rintro e w' ⟨rfl, hb⟩; have HB := Lib.hid (below_then ((Below.refl w.heap.size w).alloc (Nat.le_refl _) _) (by simp) hb); clear hb)
  go_ret
  exact ⟨by rw [ES.out]; rfl, HB.out⟩
 ·have b0 : (f.f0 == b) = false := beq_eq_false_iff_ne.mpr c1
  have ES := Lib.hid (show keepsB b counts gone f = false by unfold keepsB; simp [c1])
  clear c1
  go_enter Try.func29, Try.ntmps29
  go_wp2
  go_ret
  exact ⟨by rw [ES.out]; rfl, (Below.refl _ _).alloc (Nat.le_refl _) _⟩
theorem gone1_pred (bb bw bo : Nat) (b bl : Int) (mb : Option Nat) (vm : Value) (A : Option Addr) (c : Nat) (counts : List Fd) (G : Option Addr) (gc : Nat) (gone : List Int) (w : World)
  (hr : Kd.C k36 w A counts.length counts) (hC : Kd.C (Kd.int .i64) w G gone.length gone) (hgc : gone.length ≤ gc) (hvm : vm.oneCell' = true)
  (h0 : w.cell? ⟨bb, 0, none⟩ = some (.int .i64 b)) (hw0 : w.cell? ⟨bw, 0, none⟩ = some (.int .i64 bl)) (hw1 : w.cell? ⟨bw, 1, none⟩ = some (.map mb)) (hw2 : w.cell? ⟨bw, 2, none⟩ = some (.slice A counts.length c)) (hw3 : w.cell? ⟨bw, 3, none⟩ = some vm)
  (hg : w.cell? ⟨bo, 0, none⟩ = some (.slice G gone.length gc)) :
  PredBelow Try.prog 29 #[.pointer (some ⟨bb, 0, none⟩), .pointer (some ⟨bw, 0, none⟩), .pointer (some ⟨bo, 0, none⟩)] (fun x => .agg (encF x).toArray) (keepsB b counts gone) w := fun W x hb =>
 (gone1_calls bb bw bo b bl mb vm A c counts x G gc gone W (Kd.C_below hr hb) (Kd.C_below hC hb) hgc hvm (pw_cell_below hb h0) (pw_cell_below hb hw0) (pw_cell_below hb hw1) (pw_cell_below hb hw2) (pw_cell_below hb hw3) (pw_cell_below hb hg)).mono fun e w' ⟨h1, h2⟩ => ⟨h1, below_then hb hb.size h2⟩
def goneL (some_ : Int → Bool) (counts : List Fd) : Nat → Nat → List Int → List Int
 | 0, _, out => out
 | d + 1, b, out => if some_ b && !counts.any (keepsB b counts out) then goneL some_ counts d (b + 1) (out ++ [(b : Int)]) else goneL some_ counts d (b + 1) out
end Go.Proofs.Ytdmbibjgiehboaa.X
