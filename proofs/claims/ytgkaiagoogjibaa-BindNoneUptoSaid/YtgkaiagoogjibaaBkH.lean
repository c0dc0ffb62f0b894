/- Clone of both binders, and 'agree' of a binder and the reference's: walked. Where the same waits for both, 'agree' says yes. -/
import Derived.Test.YtgkaiagoogjibaaBkD
import Derived.Test.YtgkaiagoogjibaaPBindx0
import Derived.Test.YtgkaiagoogjibaaPBindx2
import Derived.Test.YtgkaiagoogjibaaPBindx9
import Derived.Test.YtgkaiagoogjibaaPBindx10
import Derived.Test.YtgkaiagoogjibaaPBindx1
namespace Go.Proofs.Ytgkaiagoogjibaa.Bk
open Go Go.RowKit Go.Proofs.Ytgkaiagoogjibaa.PBind Go.Proofs.YtgkaiagoogjibaaW.PrintWords Go.Proofs.YtgkaiagoogjibaaW.PrintLast Go.Proofs.YtgkaiagoogjibaaW.PrintMore
open Go.Proofs.YtgkaiagoogjibaaW.PrintWords renaming blk_drewN → bkN, blk_drew → bkD, blk_alloc → bkA, below_alloc → bwA, pw_below_drewN → bwN, below_drew1 → bwD, below_size → bwZ, below_step → bwP, blk_far → bkR, blk_put → bkU
open Go.Proofs.YtgkaiagoogjibaaW.PrintWords.Aside0 renaming mk → aM
attribute [local go_sem] max2_int min2_int max_two min_two max_three min_three max_four min_four
attribute [local go_sem high] eqA36
set_option linter.unusedVariables false
set_option linter.unusedSimpArgs false

theorem box_keep {W W1 : World} {g gb : Nat} {o : Obj} (h : W.heap[g]? = some o) (hb : Below W.heap.size W W1) (hg : gb = W.heap.size) : W1.heap[g]? = some o ∧ g ≠ gb ∧ gb ≠ g := by
  have := blk_lt h
  exact ⟨blk_below h hb, by omega, by omega⟩
end Go.Proofs.Ytgkaiagoogjibaa.Bk
