/- The call that every law's own example begins with, cluster.Next("a", 0): walked. -/
import Derived.Test.YtjjilhfebkeoeaaDoorShelf
import Derived.WalkKit
import Derived.LoopTactic
import Derived.Lib.Hide
import Derived.BigQuiet
import Derived.Laws.Strings3
import Derived.Laws.DeepStrings4
import Derived.Laws.Slices
import Derived.Outline
namespace Go.Proofs.YtjjilhfebkeoeaaDoor.Nx
open Go Go.RowKit
set_option linter.unusedVariables false

theorem run_size (c n : Int) (w : World) : (Instr.field 27 (.agg #[.int .i32 c, .int .i64 n]) 1).run Tryd.prog w = .ok (.int .i64 n) w := by kernel_rfl
attribute [local go_sem] run_size

set_option maxRecDepth 100000 in
theorem first_a (w : World) : Calls Tryd.prog 31 #[.string ⟨#[97]⟩] w fun e w' => e = .returned (.agg #[.int .i32 97, .int .i64 1]) ∧ Below w.heap.size w w' := by
  go_enter Tryd.func31, Tryd.ntmps31
  go_wp2_with (go_at_call 42; refine (Tryd.utf8_DecodeRuneInString_ascii ⟨#[97]⟩ 97 _ rfl (by decide)).mono ?_; rintro e wz ⟨rfl, rfl⟩)
  exact bodyPost_ret (v := .agg #[.int .i32 97, .int .i64 1]) (by simp [results, Tryd.results31, go_sem]) rfl ⟨rfl, (Below.refl _ _).alloc (Nat.le_refl _) _⟩
set_option maxRecDepth 100000 in
theorem around_a (w : World) : Calls Tryd.prog 68 #[.string ⟨#[97]⟩, .int .i64 0] w fun e w' => e = .returned (.tuple #[.int .i64 0, .int .i64 1]) ∧ Below w.heap.size w w' := by
  have m1 : max (0 : Int) (0 - 3) = 0 := by decide
  have m2 : max (0 : Int) (-3) = 0 := by decide
  go_enter Tryd.func68, Tryd.ntmps68
  go_wp2
  refine wp_loop_rounds 1 ?_; rw [rounds_succ]
  go_wp2_with (go_at_call 31; refine (first_a _).mono ?_; rintro e wz ⟨rfl, hb⟩)

  go_ret2
  exact ⟨rfl, hb⟩
set_option maxRecDepth 100000 in
theorem unext_a (w : World) : Calls Tryd.prog 50 #[.string ⟨#[97]⟩, .int .i64 0] w fun e w' => e = .returned (.int .i64 1) ∧ Below w.heap.size w w' := by
  have m1 : min (0 : Int) 1 = 0 := by decide
  go_enter Tryd.func50, Tryd.ntmps50
  go_wp2_with (go_at_call 68; refine (around_a _).mono ?_; rintro e wz ⟨rfl, hb⟩)
  go_ret
  exact ⟨rfl, hb⟩
set_option maxRecDepth 100000 in
theorem bound_a (w : World) : Calls Tryd.prog 51 #[.string ⟨#[97]⟩, .int .i64 1] w fun e w' => e = .returned (.bool true) ∧ w' = w := by
  go_enter Tryd.func51, Tryd.ntmps51
  go_wp2
  go_ret
  exact ⟨rfl, rfl⟩
set_option maxRecDepth 100000 in
theorem next_a (w : World) : Calls Tryd.prog 35 #[.string ⟨#[97]⟩, .int .i64 0] w fun e w' => e = .returned (.int .i64 1) ∧ Below w.heap.size w w' := by
  go_enter Tryd.func35, Tryd.ntmps35
  go_wp2_with fail
  refine wp_loop_rounds 1 ?_; rw [rounds_succ]
  go_wp2_with (first
    | (go_at_call 50; refine (unext_a _).mono ?_; rintro e wz ⟨rfl, hb⟩)
    | (go_at_call 51; refine (bound_a _).mono ?_; rintro e wz ⟨rfl, rfl⟩))
  go_ret
  exact ⟨rfl, hb⟩
end Go.Proofs.YtjjilhfebkeoeaaDoor.Nx
