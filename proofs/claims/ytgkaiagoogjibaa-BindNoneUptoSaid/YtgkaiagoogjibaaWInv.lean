-- words of the kit's print, cut down by prune.py to what this claim uses
import Derived.Test.YtgkaiagoogjibaaWTab
namespace Go.Proofs.YtgkaiagoogjibaaW.PrintLast
def up (b : Nat → Bool) (i : Nat) : Nat → Bool := fun j => if j = i then true else b j
end Go.Proofs.YtgkaiagoogjibaaW.PrintLast
