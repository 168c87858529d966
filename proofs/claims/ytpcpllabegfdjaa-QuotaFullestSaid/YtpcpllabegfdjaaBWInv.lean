-- Cut by a program of this session (wip/pr/pack.py) to what one claim needs.
import Derived.Test.YtpcpllabegfdjaaBWLast
import Derived.Test.YtpcpllabegfdjaaBWWords
namespace Go.Proofs.YtpcpllabegfdjaaW.PrintLast
def up (b : Nat → Bool) (i : Nat) : Nat → Bool := fun j => if j = i then true else b j
end Go.Proofs.YtpcpllabegfdjaaW.PrintLast
