/- Any keys, one behind the other, against the reference's: walked with both binders and a clone of each. -/
import Derived.Test.YtgkaiagoogjibaaBkH
namespace Go.Proofs.Ytgkaiagoogjibaa.Bk
open Go Go.RowKit Go.Proofs.Ytgkaiagoogjibaa.PBind Go.Proofs.YtgkaiagoogjibaaW.PrintWords Go.Proofs.YtgkaiagoogjibaaW.PrintLast Go.Proofs.YtgkaiagoogjibaaW.PrintMore
open Go.Proofs.YtgkaiagoogjibaaW.PrintWords renaming blk_drewN → bkN, blk_drew → bkD, blk_alloc → bkA, below_alloc → bwA, pw_below_drewN → bwN, below_drew1 → bwD, below_size → bwZ, below_step → bwP, blk_far → bkR, blk_put → bkU
open Go.Proofs.YtgkaiagoogjibaaW.PrintWords.Aside0 renaming mk → aM
attribute [local go_sem] max2_int min2_int max_two min_two max_three min_three max_four min_four
attribute [local go_sem high] eqA36
set_option linter.unusedVariables false
set_option linter.unusedSimpArgs false

theorem put6 {w : World} {g : Nat} {t : TypeId} {a b c d e f : Value} {cs cs' : Array Value} (h : w.heap[g]? = some (.cells cs t (0, 0))) (q : ((((((cs.setIfInBounds 0 a).setIfInBounds 1 b).setIfInBounds 2 c).setIfInBounds 3 d).setIfInBounds 4 e).setIfInBounds 5 f) = cs') :
    ((((((w.setCell ⟨g, 0, none⟩ a).setCell ⟨g, 1, none⟩ b).setCell ⟨g, 2, none⟩ c).setCell ⟨g, 3, none⟩ d).setCell ⟨g, 4, none⟩ e).setCell ⟨g, 5, none⟩ f).heap[g]? = some (.cells cs' t (0, 0)) :=
  q ▸ blk_set (blk_set (put4 h rfl) 4 e) 5 f
theorem key_calls (g : Nat) (p : Int) (cs : Bool) (cn : Int) (K : S25) (a b : Int) (c : ByteArray) (d : Int) (o : Bool) (p' : Int) (cs' : Bool) (cn' : Int) (w0 w : World) (hs : okS (p, cs, cn)) (e : keyOf (p, cs, cn) K = ((a, b, c, d, o), (p', cs', cn'))) (hI : IsS53 w0 w g p cs cn) (hB : Below w0.heap.size w0 w) :
    Calls Try.prog 23 #[.pointer (some ⟨g, 0, none⟩), .agg #[.int .i64 K.f0, .int .i32 K.f1, .bool K.f2, .bool K.f3, .bool K.f4, .string K.f5]] w fun e w' => e = .returned (.tuple #[.agg #[.int .i64 a, .int .i64 b, .string c, .int .u8 d], .bool o]) ∧ IsS53 w0 w' g p' cs' cn' ∧ Below w0.heap.size w0 w' ∧ KeepBut w w' g none := by
  have h := key_of 0 p cs cn K.f0 K.f1 K.f2 K.f3 K.f4 K.f5 hs.2.1 hs.2.2
  have e' : keyS p cs cn K.f0 K.f1 K.f2 K.f3 K.f5 = ((a, b, c, d, o), (p', cs', cn')) := e
  rw [e'] at h
  exact bind_Binder_Key.calls _ g p cs cn _ _ _ _ _ _ a b c d o p' cs' cn' w0 w hI hB h
end Go.Proofs.Ytgkaiagoogjibaa.Bk
