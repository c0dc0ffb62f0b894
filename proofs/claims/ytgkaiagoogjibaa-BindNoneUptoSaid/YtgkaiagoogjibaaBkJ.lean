/- The nil binder: what each call answers; memory stays as it was. -/
import Derived.Test.YtgkaiagoogjibaaBkH
namespace Go.Proofs.Ytgkaiagoogjibaa.Bk
open Go Go.RowKit Go.Proofs.Ytgkaiagoogjibaa.PBind Go.Proofs.YtgkaiagoogjibaaW.PrintWords Go.Proofs.YtgkaiagoogjibaaW.PrintLast Go.Proofs.YtgkaiagoogjibaaW.PrintMore
open Go.Proofs.YtgkaiagoogjibaaW.PrintWords renaming blk_drewN → bkN, blk_drew → bkD, blk_alloc → bkA, below_alloc → bwA, pw_below_drewN → bwN, below_drew1 → bwD, below_size → bwZ, below_step → bwP, blk_far → bkR, blk_put → bkU
open Go.Proofs.YtgkaiagoogjibaaW.PrintWords.Aside0 renaming mk → aM
attribute [local go_sem] max2_int min2_int max_two min_two max_three min_three max_four min_four
attribute [local go_sem high] eqA36
set_option linter.unusedVariables false
set_option linter.unusedSimpArgs false


set_option maxHeartbeats 8000000 in
set_option maxRecDepth 100000 in
theorem nilcount_calls (w : World) : Calls Try.prog 24 #[.pointer none] w fun e w' => e = .returned (.tuple #[.int .i64 1, .bool false]) ∧ Below w.heap.size w w' := by
  have HB := aM (Below.refl w.heap.size w)
  go_enter Try.func24, Try.ntmps24
  go_wp2
  go_ret2
  exact ⟨rfl, by apply_rules (transparency := .reducible) [HB.1, bwA, bwN, bwD]⟩
set_option maxHeartbeats 8000000 in
set_option maxRecDepth 100000 in
theorem nilprefix_calls (w : World) : Calls Try.prog 22 #[.pointer none] w fun e w' => e = .returned (.string (⟨#[]⟩ : ByteArray)) ∧ Below w.heap.size w w' := by
  have HB := aM (Below.refl w.heap.size w)
  go_enter Try.func22, Try.ntmps22
  go_wp2
  go_ret
  exact ⟨rfl, by apply_rules (transparency := .reducible) [HB.1, bwA, bwN, bwD]⟩
set_option maxHeartbeats 8000000 in
set_option maxRecDepth 100000 in
theorem nilreset_calls (w : World) : Calls Try.prog 30 #[.pointer none] w fun e w' => e = .returned (.tuple #[]) ∧ Below w.heap.size w w' := by
  have HB := aM (Below.refl w.heap.size w)
  go_enter Try.func30, Try.ntmps30
  go_wp2
  first | go_end0 | ((try simp only [Exit.inBlock, Exit.then]); refine bodyPost_ret (results_none rfl _ _ _) rfl ?_)
  exact ⟨rfl, by apply_rules (transparency := .reducible) [HB.1, bwA, bwN, bwD]⟩
set_option maxHeartbeats 8000000 in
set_option maxRecDepth 100000 in
theorem nilclone_calls (w : World) : Calls Try.prog 26 #[.pointer none] w fun e w' => e = .returned (.pointer none) ∧ Below w.heap.size w w' := by
  have HB := aM (Below.refl w.heap.size w)
  go_enter Try.func26, Try.ntmps26
  go_wp2
  go_ret
  exact ⟨rfl, by apply_rules (transparency := .reducible) [HB.1, bwA, bwN, bwD]⟩
set_option maxHeartbeats 8000000 in
set_option maxRecDepth 100000 in
theorem nilkey_calls (K : S25) (w : World) : Calls Try.prog 23 #[.pointer none, .agg #[.int .i64 K.f0, .int .i32 K.f1, .bool K.f2, .bool K.f3, .bool K.f4, .string K.f5]] w fun e w' => e = .returned (.tuple #[.agg #[.int .i64 0, .int .i64 0, .string (⟨#[]⟩ : ByteArray), .int .u8 0], .bool false]) ∧ Below w.heap.size w w' := by
  have hu25 := Try.underlying25
  have hu36 := Try.underlying36
  have HB := aM (Below.refl w.heap.size w)
  go_enter Try.func23, Try.ntmps23
  go_wp2
  refine bodyPost_ret (results_ct rfl _ _ (w.heap.size + 1) 36 #[.int .i64 0, .int .i64 0, .string (⟨#[]⟩ : ByteArray), .int .u8 0] (0, 0) _ rfl ?_ Try.underlying36 rfl (by kernel_rfl)) rfl ?_
  · exact heap_alloc2_new w _ _
  · exact ⟨rfl, by apply_rules (transparency := .reducible) [HB.1, bwA, bwN, bwD]⟩
end Go.Proofs.Ytgkaiagoogjibaa.Bk
