/- lettered, numbered, meta, unknown, plain, ss3: walked. -/
import Derived.Test.YtjjilhfebkeoeaaDoorKyB
import Derived.RegionTactic
import Derived.ChangeAlike
namespace Go.Proofs.YtjjilhfebkeoeaaDoor.Ky
open Go Go.RowKit
open Go.Proofs.YtjjilhfebkeoeaaDoor.Wk (bcell bel_drew bel_drewN bel_alloc bel_set bel_call size_len mk_data beq_true_i bne_true_i bne_false_i beq_false_i drop_cons var_below)
set_option linter.unusedVariables false
set_option linter.unusedSimpArgs false

set_option maxHeartbeats 1000000 in
set_option maxRecDepth 100000 in
theorem lettered_calls (b : Nat) (hb : b < 256) (w : World) : Calls Tryd.prog 57 #[.int .u8 b] w fun e w' => e = .returned (keyV (lettered b)) ∧ Below w.heap.size w w' := by
  by_cases hin : b = 65 ∨ b = 66 ∨ b = 67 ∨ b = 68 ∨ b = 72 ∨ b = 70 ∨ b = 80 ∨ b = 81 ∨ b = 82 ∨ b = 83 ∨ b = 90
  · clear hb
    rcases hin with h | h | h | h | h | h | h | h | h | h | h
    all_goals
      subst h
      go_enter Tryd.func57, Tryd.ntmps57
      go_wp2
      refine bodyPost_ret (by simp only [results, Tryd.results57, go_sem, List.getElem?_toArray]; simp [go_sem]; rfl) rfl ⟨?_, ?_⟩
      · rfl
      · repeat (with_reducible first | refine bel_alloc ?_ _ | refine bel_set ?_ (Nat.le_refl _) _ | exact Below.refl _ _)
  · have n1 : ((b : Int) == 65) = false := beq_false_i (by omega)
    have n2 : ((b : Int) == 66) = false := beq_false_i (by omega)
    have n3 : ((b : Int) == 67) = false := beq_false_i (by omega)
    have n4 : ((b : Int) == 68) = false := beq_false_i (by omega)
    have n5 : ((b : Int) == 72) = false := beq_false_i (by omega)
    have n6 : ((b : Int) == 70) = false := beq_false_i (by omega)
    have n7 : ((b : Int) == 80) = false := beq_false_i (by omega)
    have n8 : ((b : Int) == 81) = false := beq_false_i (by omega)
    have n9 : ((b : Int) == 82) = false := beq_false_i (by omega)
    have n10 : ((b : Int) == 83) = false := beq_false_i (by omega)
    have n11 : ((b : Int) == 90) = false := beq_false_i (by omega)
    have H : Hid (lettered b = key0) := by
      show _ = _
      unfold lettered
      rw [if_neg (by omega), if_neg (by omega), if_neg (by omega), if_neg (by omega), if_neg (by omega), if_neg (by omega), if_neg (by omega), if_neg (by omega)]
    clear hin
    go_enter Tryd.func57, Tryd.ntmps57
    go_wp2
    refine bodyPost_ret (v := .agg #[.int .i64 0, .int .i32 0, .bool false, .bool false, .bool false, .string ⟨#[]⟩]) (by simp [results, Tryd.results57, go_sem]) rfl ⟨ret_k (k' := key0) H.out, ?_⟩
    repeat (with_reducible first | refine bel_alloc ?_ _ | refine bel_set ?_ (Nat.le_refl _) _ | exact Below.refl _ _)
set_option maxHeartbeats 1000000 in
set_option maxRecDepth 100000 in
theorem numbered_calls (n : Nat) (w : World) : Calls Tryd.prog 58 #[.int .i64 n] w fun e w' => e = .returned (keyV (numbered n)) ∧ Below w.heap.size w w' := by
  by_cases hin : n ≤ 24
  · have hin : n = 0 ∨ n = 1 ∨ n = 2 ∨ n = 3 ∨ n = 4 ∨ n = 5 ∨ n = 6 ∨ n = 7 ∨ n = 8 ∨ n = 9 ∨ n = 10 ∨ n = 11 ∨ n = 12 ∨ n = 13 ∨ n = 14 ∨ n = 15 ∨ n = 16 ∨ n = 17 ∨ n = 18 ∨ n = 19 ∨ n = 20 ∨ n = 21 ∨ n = 22 ∨ n = 23 ∨ n = 24 := by omega
    rcases hin with h | h | h | h | h | h | h | h | h | h | h | h | h | h | h | h | h | h | h | h | h | h | h | h | h
    all_goals
      subst h
      go_enter Tryd.func58, Tryd.ntmps58
      go_wp2
      refine bodyPost_ret (by simp only [results, Tryd.results58, go_sem, List.getElem?_toArray]; simp [go_sem]; rfl) rfl ⟨?_, ?_⟩
      · rfl
      · repeat (with_reducible first | refine bel_alloc ?_ _ | refine bel_set ?_ (Nat.le_refl _) _ | exact Below.refl _ _)
  · have hn : (25 : Int) ≤ n := by omega
    have n1 : ((n : Int) == 1) = false := beq_false_i (by omega)
    have n2 : ((n : Int) == 2) = false := beq_false_i (by omega)
    have n3 : ((n : Int) == 3) = false := beq_false_i (by omega)
    have n4 : ((n : Int) == 4) = false := beq_false_i (by omega)
    have n5 : ((n : Int) == 5) = false := beq_false_i (by omega)
    have n6 : ((n : Int) == 6) = false := beq_false_i (by omega)
    have n7 : ((n : Int) == 7) = false := beq_false_i (by omega)
    have n8 : ((n : Int) == 8) = false := beq_false_i (by omega)
    have n9 : ((n : Int) == 23) = false := beq_false_i (by omega)
    have n10 : ((n : Int) == 24) = false := beq_false_i (by omega)
    have q1 : decide ((n : Int) ≤ 15) = false := by rw [decide_eq_false_iff_not]; omega
    have q2 : decide ((n : Int) ≤ 21) = false := by rw [decide_eq_false_iff_not]; omega
    have H : Hid (numbered n = key0) := by
      show _ = _
      unfold numbered
      rw [if_neg (by omega), if_neg (by omega), if_neg (by omega), if_neg (by omega), if_neg (by omega), if_neg (by omega), if_neg (by omega), if_neg (by omega), if_neg (by omega)]
    clear hin
    go_enter Tryd.func58, Tryd.ntmps58
    go_wp2
    refine bodyPost_ret (v := .agg #[.int .i64 0, .int .i32 0, .bool false, .bool false, .bool false, .string ⟨#[]⟩]) (by simp [results, Tryd.results58, go_sem]) rfl ⟨ret_k (k' := key0) H.out, ?_⟩
    repeat (with_reducible first | refine bel_alloc ?_ _ | refine bel_set ?_ (Nat.le_refl _) _ | exact Below.refl _ _)
end Go.Proofs.YtjjilhfebkeoeaaDoor.Ky
