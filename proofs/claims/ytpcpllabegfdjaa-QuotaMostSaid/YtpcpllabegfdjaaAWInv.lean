-- Cut by a program of this session (wip/pr/pack.py) to what one claim needs.
import Derived.Test.YtpcpllabegfdjaaAWLast
import Derived.Test.YtpcpllabegfdjaaAWWords
namespace Go.Proofs.YtpcpllabegfdjaaW.PrintLast
def up (b : Nat → Bool) (i : Nat) : Nat → Bool := fun j => if j = i then true else b j
end Go.Proofs.YtpcpllabegfdjaaW.PrintLast
