/-
  No cell of these rows narrows 'for every input' (looked for: loops, veiled, ifaces, maps, wideKeys, modest, calm, conditions, laid).
  DERIVED. THE GIVEN ROWS OF THIS SEAT. 2 by the template 'for every input the law returns true; each argument reads behind the call as it read before'; 0 by the template 'total and deterministic' (their statements: YtpcpllabegfdjaaTotals.lean).
  GIVEN WITH THE SEED: the statements are not yours to turn. If you find one false, say at which input.
  Laid BY PROGRAM, IN A SANDBOX (cutbox-rows.mjs): the forced cells as the released guide's own fill.sh prints them over the translation 458bc83f175e6c1d… (all of the seat's roots in one cut). By AI agents, Wed Nov 11 2026. No macro, syntax, notation, axiom, sorry.
-/
import Derived.Test.YtpcpllabegfdjaaChecked
import GoSem.Claim
import GoSem.ClaimJoined
import GoSem.ClaimMapViews
import Derived.JoinedTies
import Derived.KernelRfl
namespace Go.Proofs.Ytpcpllabegfdjaa
/- THE CELL 'sum', in the pinned program and in every row, IS THE sha256 OF THE DUMP (.gsa) THAT YtpcpllabegfdjaaProg.lean LOADS. Nothing in Lean hashes anything: it is a label: what it is worth is what the hold of that sum in a sandbox is worth. -/
noncomputable def Try.pinned : Pinned := { name := "ytpcpllabegfdjaa", sum := "458bc83f175e6c1d19d0dedb92be99c50840086e9df326503fb4fb6a73c0f877", checked := Try.checked }
namespace Rows
def none {H : Type} : Left H := { results := [], args := [] }

/-- 'almshouselaw41.QuotaFullest': WHATEVER THE INPUT: true; the input reads as it did. -/
def quotaFullestSpec : ChangeSpec := { name := "quotaFullest", fn := fun _ => fun
  | [d1, d2, d3] => { results := [.lit (.bool true)], args := [d1, d2, d3] }
  | _ => none }
def quotaFullestRow : OpenClaim := { program := "ytpcpllabegfdjaa", sum := "458bc83f175e6c1d19d0dedb92be99c50840086e9df326503fb4fb6a73c0f877", func := "almshouse/almshouselaw41.QuotaFullest", spec := "quotaFullest", unfollowed := true, recurses := true, apart := false }
def QuotaFullestSaid : Prop := quotaFullestRow.holds Try.pinned (OpenSpec.ofChange quotaFullestSpec)

/-- ITS FALSE NEIGHBOUR: 'it returns false'. Refute it at one input. -/
def quotaFullestWrong : ChangeSpec := { name := "quotaFullest", fn := fun _ => fun
  | [d1, d2, d3] => { results := [.lit (.bool false)], args := [d1, d2, d3] }
  | _ => none }
def QuotaFullestWrongFalsely : Prop := quotaFullestRow.holds Try.pinned (OpenSpec.ofChange quotaFullestWrong)

/-- 'almshouselaw41.QuotaMost': WHATEVER THE INPUT: true; the input reads as it did. -/
def quotaMostSpec : ChangeSpec := { name := "quotaMost", fn := fun _ => fun
  | [d1, d2, d3] => { results := [.lit (.bool true)], args := [d1, d2, d3] }
  | _ => none }
def quotaMostRow : OpenClaim := { program := "ytpcpllabegfdjaa", sum := "458bc83f175e6c1d19d0dedb92be99c50840086e9df326503fb4fb6a73c0f877", func := "almshouse/almshouselaw41.QuotaMost", spec := "quotaMost", unfollowed := true, recurses := true, apart := false }
def QuotaMostSaid : Prop := quotaMostRow.holds Try.pinned (OpenSpec.ofChange quotaMostSpec)

/-- ITS FALSE NEIGHBOUR: 'it returns false'. Refute it at one input. -/
def quotaMostWrong : ChangeSpec := { name := "quotaMost", fn := fun _ => fun
  | [d1, d2, d3] => { results := [.lit (.bool false)], args := [d1, d2, d3] }
  | _ => none }
def QuotaMostWrongFalsely : Prop := quotaMostRow.holds Try.pinned (OpenSpec.ofChange quotaMostWrong)

/- THE SECOND FORM. 'bulk': how many values and letters a reading holds, each counted each time it is reached (what is shared counts as often as it is met; a slice's spare places count too). A statement '..UptoSaid' is the law's where the arguments, and the package variables that the reading takes, are together of bulk at most 1048576: NARROWER than '..Said'. Prove '..Said' where nothing that the law and all that it calls make is longer than what came in: it says more and counts as full. Else prove '..UptoSaid'. A law counts once. -/
mutual
def uptoBulk {H : Type} : DataW H → Nat
  | .lit (.string bytes) => bytes.length + 1
  | .lit _ => 1
  | .nil => 1
  | .ptr d => uptoBulk d + 1
  | .slice elems spare => uptoBulkAll elems + uptoBulkAll spare + 1
  | .agg parts => uptoBulkAll parts + 1
  | .iface _ d => uptoBulk d + 1
  | .map entries => uptoBulkEntries entries + 1
  | .held _ => 1
def uptoBulkAll {H : Type} : List (DataW H) → Nat
  | [] => 0
  | d :: r => uptoBulk d + uptoBulkAll r
def uptoBulkEntries {H : Type} : List (Lit × DataW H) → Nat
  | [] => 0
  | x :: r => uptoBulkEntry x + uptoBulkEntries r
def uptoBulkEntry {H : Type} : Lit × DataW H → Nat
  | (.string bytes, d) => bytes.length + uptoBulk d + 1
  | (_, d) => uptoBulk d + 1
 end
def uptoSmall : (H : Type) → List (DataW H) → Bool := fun _ ds => decide (uptoBulkAll ds ≤ 1048576)
def OpenSpec.upto (s : _root_.Go.ChangeSpec) : _root_.Go.OpenSpec := { _root_.Go.OpenSpec.ofChange s with cond := some uptoSmall }

/-- 'almshouselaw41.QuotaFullest', WHERE WHAT IT READS IS OF BULK AT MOST 1048576: true; the input reads as it did. -/
def quotaFullestUptoRow : OpenClaim := { program := "ytpcpllabegfdjaa", sum := "458bc83f175e6c1d19d0dedb92be99c50840086e9df326503fb4fb6a73c0f877", func := "almshouse/almshouselaw41.QuotaFullest", spec := "quotaFullest", unfollowed := true, recurses := true, apart := false, narrowed := true }
def QuotaFullestUptoSaid : Prop := quotaFullestUptoRow.holds Try.pinned (OpenSpec.upto quotaFullestSpec)

/-- 'almshouselaw41.QuotaMost', WHERE WHAT IT READS IS OF BULK AT MOST 1048576: true; the input reads as it did. -/
def quotaMostUptoRow : OpenClaim := { program := "ytpcpllabegfdjaa", sum := "458bc83f175e6c1d19d0dedb92be99c50840086e9df326503fb4fb6a73c0f877", func := "almshouse/almshouselaw41.QuotaMost", spec := "quotaMost", unfollowed := true, recurses := true, apart := false, narrowed := true }
def QuotaMostUptoSaid : Prop := quotaMostUptoRow.holds Try.pinned (OpenSpec.upto quotaMostSpec)

end Rows
end Go.Proofs.Ytpcpllabegfdjaa
