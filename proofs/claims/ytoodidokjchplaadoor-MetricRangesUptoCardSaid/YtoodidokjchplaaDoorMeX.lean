/- width.marks, wides, Class, Cells: walked. -/
import Derived.Test.YtoodidokjchplaaDoorMeW
namespace Go.Proofs.YtoodidokjchplaaDoor.Un
open Go Go.RowKit Go.Shelf
open Go.Proofs.YtoodidokjchplaaDoor.Wk (bcell bel_drew bel_drewN bel_alloc bel_set bel_call size_len mk_data beq_true_i bne_true_i bne_false_i beq_false_i drop_cons var_below blk_cell blk_below blk_lt blk_alloc)
set_option linter.unusedVariables false
set_option linter.unusedSimpArgs false
theorem row_new (w : World) (vs : Array Value) (t : TypeId) (tb : List (Int × Int)) (h : vs = ((flT tb).map (Value.int .i32)).toArray) : TRow (w.alloc (.cells vs t)) w.heap.size tb := by
  intro j c hj
  have h1 := blk_cell (heap_alloc_new w (.cells vs t)) j
  rw [show (⟨w.heap.size, 0 + j, none⟩ : Addr) = ⟨w.heap.size, j, none⟩ by rw [Nat.zero_add], h1, h, List.getElem?_toArray, List.getElem?_map, hj]
  rfl
set_option maxRecDepth 1000000 in
set_option maxHeartbeats 4000000 in
theorem marks_calls (w : World) : Calls Tryd.prog 105 #[] w fun e w' => e = .returned (.slice (some ⟨w.heap.size, 0, none⟩) 52 52) ∧ TRow w' w.heap.size marksT ∧ Below w.heap.size w w' := by
  go_enter Tryd.func105, Tryd.ntmps105
  go_wp2
  go_ret
  exact ⟨rfl, row_new _ _ _ _ rfl, bel_alloc (Below.refl _ _) _⟩
set_option maxRecDepth 1000000 in
set_option maxHeartbeats 4000000 in
theorem wides_calls (w : World) : Calls Tryd.prog 106 #[] w fun e w' => e = .returned (.slice (some ⟨w.heap.size, 0, none⟩) 54 54) ∧ TRow w' w.heap.size widesT ∧ Below w.heap.size w w' := by
  go_enter Tryd.func106, Tryd.ntmps106
  go_wp2
  go_ret
  exact ⟨rfl, row_new _ _ _ _ rfl, bel_alloc (Below.refl _ _) _⟩
theorem wmarks (c : Int) (blk : Nat) (w : World) (hr : TRow w blk marksT) :
    Calls Tryd.prog 104 #[.slice (some ⟨blk, 0, none⟩) 52 52, .int .i32 c] w fun e w' => e = .returned (.bool (inT marksT c)) ∧ Below w.heap.size w w' :=
  within_calls marksT 52 blk 52 c w (by decide +kernel) (by decide) rfl hr
theorem wwides (c : Int) (blk : Nat) (w : World) (hr : TRow w blk widesT) :
    Calls Tryd.prog 104 #[.slice (some ⟨blk, 0, none⟩) 54 54, .int .i32 c] w fun e w' => e = .returned (.bool (inT widesT c)) ∧ Below w.heap.size w w' :=
  within_calls widesT 54 blk 54 c w (by decide +kernel) (by decide) rfl hr
set_option maxRecDepth 100000 in
set_option maxHeartbeats 4000000 in
theorem class_t1 (c : Int) (w : World) (h1 : 32 ≤ c) (h2 : c < 127) (m v : Bool)
    (M : Hid (∀ (W : World) (blk : Nat), TRow W blk marksT → Calls Tryd.prog 104 #[.slice (some ⟨blk, 0, none⟩) 52 52, .int .i32 c] W fun e w' => e = .returned (.bool m) ∧ Below W.heap.size W w'))
    (V : Hid (∀ (W : World) (blk : Nat), TRow W blk widesT → Calls Tryd.prog 104 #[.slice (some ⟨blk, 0, none⟩) 54 54, .int .i32 c] W fun e w' => e = .returned (.bool v) ∧ Below W.heap.size W w')) :
    Calls Tryd.prog 84 #[.int .i32 c] w fun e w' => e = .returned (.int .i64 (if m = true then 3 else if v = true then 4 else 0)) ∧ Below w.heap.size w w' := by
  have q0 : decide (c < 0) = false := by rw [decide_eq_false_iff_not]; omega
  have q1 : decide (1114111 < c) = false := by rw [decide_eq_false_iff_not]; omega
  have q2 : decide (c = 10) = false := by rw [decide_eq_false_iff_not]; omega
  have q3 : decide (c < 32) = false := by rw [decide_eq_false_iff_not]; omega
  have q4 : decide (55296 ≤ c) = false := by rw [decide_eq_false_iff_not]; omega
  have q5 : decide (127 ≤ c) = false := by rw [decide_eq_false_iff_not]; omega
  have qb : (c == 10) = false := by rw [beq_eq_false_iff_ne]; omega
  clear h1 h2
  go_enter Tryd.func84, Tryd.ntmps84
  go_wp2_with (first
    | (go_at_call 105; (with_reducible refine (marks_calls _).mono ?_); rintro e w1 ⟨rfl, r1, b1⟩)
    | (go_at_call 106; (with_reducible refine (wides_calls _).mono ?_); rintro e w3 ⟨rfl, r3, b3⟩)
    | (go_at_call 104; (with_reducible refine (V.out _ _ r3).mono ?_); rintro e w4 ⟨rfl, b4⟩)
    | (go_at_call 104; (with_reducible refine (M.out _ _ r1).mono ?_); rintro e w2 ⟨rfl, b2⟩))
  go_ways
  all_goals go_ret
  all_goals refine ⟨rfl, ?_⟩
  all_goals (repeat (with_reducible first | refine bel_call ?_ b4 | refine bel_call ?_ b3 | refine bel_call ?_ b2 | refine bel_call ?_ b1 | exact Below.refl _ _))
set_option maxRecDepth 100000 in
set_option maxHeartbeats 4000000 in
theorem class_t2 (c : Int) (w : World) (h1 : 159 < c) (h2 : c < 55296) (m v : Bool)
    (M : Hid (∀ (W : World) (blk : Nat), TRow W blk marksT → Calls Tryd.prog 104 #[.slice (some ⟨blk, 0, none⟩) 52 52, .int .i32 c] W fun e w' => e = .returned (.bool m) ∧ Below W.heap.size W w'))
    (V : Hid (∀ (W : World) (blk : Nat), TRow W blk widesT → Calls Tryd.prog 104 #[.slice (some ⟨blk, 0, none⟩) 54 54, .int .i32 c] W fun e w' => e = .returned (.bool v) ∧ Below W.heap.size W w')) :
    Calls Tryd.prog 84 #[.int .i32 c] w fun e w' => e = .returned (.int .i64 (if m = true then 3 else if v = true then 4 else 0)) ∧ Below w.heap.size w w' := by
  have q0 : decide (c < 0) = false := by rw [decide_eq_false_iff_not]; omega
  have q1 : decide (1114111 < c) = false := by rw [decide_eq_false_iff_not]; omega
  have q2 : decide (c = 10) = false := by rw [decide_eq_false_iff_not]; omega
  have q3 : decide (c < 32) = false := by rw [decide_eq_false_iff_not]; omega
  have q4 : decide (55296 ≤ c) = false := by rw [decide_eq_false_iff_not]; omega
  have q5 : decide (127 ≤ c) = true := by rw [decide_eq_true_iff]; omega
  have q6 : decide (c ≤ 159) = false := by rw [decide_eq_false_iff_not]; omega
  have qb : (c == 10) = false := by rw [beq_eq_false_iff_ne]; omega
  clear h1 h2
  go_enter Tryd.func84, Tryd.ntmps84
  go_wp2_with (first
    | (go_at_call 105; (with_reducible refine (marks_calls _).mono ?_); rintro e w1 ⟨rfl, r1, b1⟩)
    | (go_at_call 106; (with_reducible refine (wides_calls _).mono ?_); rintro e w3 ⟨rfl, r3, b3⟩)
    | (go_at_call 104; (with_reducible refine (V.out _ _ r3).mono ?_); rintro e w4 ⟨rfl, b4⟩)
    | (go_at_call 104; (with_reducible refine (M.out _ _ r1).mono ?_); rintro e w2 ⟨rfl, b2⟩))
  go_ways
  all_goals go_ret
  all_goals refine ⟨rfl, ?_⟩
  all_goals (repeat (with_reducible first | refine bel_call ?_ b4 | refine bel_call ?_ b3 | refine bel_call ?_ b2 | refine bel_call ?_ b1 | exact Below.refl _ _))
set_option maxRecDepth 100000 in
set_option maxHeartbeats 4000000 in
theorem class_t3 (c : Int) (w : World) (h1 : 57343 < c) (h2 : c ≤ 1114111) (m v : Bool)
    (M : Hid (∀ (W : World) (blk : Nat), TRow W blk marksT → Calls Tryd.prog 104 #[.slice (some ⟨blk, 0, none⟩) 52 52, .int .i32 c] W fun e w' => e = .returned (.bool m) ∧ Below W.heap.size W w'))
    (V : Hid (∀ (W : World) (blk : Nat), TRow W blk widesT → Calls Tryd.prog 104 #[.slice (some ⟨blk, 0, none⟩) 54 54, .int .i32 c] W fun e w' => e = .returned (.bool v) ∧ Below W.heap.size W w')) :
    Calls Tryd.prog 84 #[.int .i32 c] w fun e w' => e = .returned (.int .i64 (if m = true then 3 else if v = true then 4 else 0)) ∧ Below w.heap.size w w' := by
  have q0 : decide (c < 0) = false := by rw [decide_eq_false_iff_not]; omega
  have q1 : decide (1114111 < c) = false := by rw [decide_eq_false_iff_not]; omega
  have q2 : decide (c = 10) = false := by rw [decide_eq_false_iff_not]; omega
  have q3 : decide (c < 32) = false := by rw [decide_eq_false_iff_not]; omega
  have q4 : decide (55296 ≤ c) = true := by rw [decide_eq_true_iff]; omega
  have q5 : decide (c ≤ 57343) = false := by rw [decide_eq_false_iff_not]; omega
  have q6 : decide (127 ≤ c) = true := by rw [decide_eq_true_iff]; omega
  have q7 : decide (c ≤ 159) = false := by rw [decide_eq_false_iff_not]; omega
  have qb : (c == 10) = false := by rw [beq_eq_false_iff_ne]; omega
  clear h1 h2
  go_enter Tryd.func84, Tryd.ntmps84
  go_wp2_with (first
    | (go_at_call 105; (with_reducible refine (marks_calls _).mono ?_); rintro e w1 ⟨rfl, r1, b1⟩)
    | (go_at_call 106; (with_reducible refine (wides_calls _).mono ?_); rintro e w3 ⟨rfl, r3, b3⟩)
    | (go_at_call 104; (with_reducible refine (V.out _ _ r3).mono ?_); rintro e w4 ⟨rfl, b4⟩)
    | (go_at_call 104; (with_reducible refine (M.out _ _ r1).mono ?_); rintro e w2 ⟨rfl, b2⟩))
  go_ways
  all_goals go_ret
  all_goals refine ⟨rfl, ?_⟩
  all_goals (repeat (with_reducible first | refine bel_call ?_ b4 | refine bel_call ?_ b3 | refine bel_call ?_ b2 | refine bel_call ?_ b1 | exact Below.refl _ _))
set_option maxRecDepth 100000 in
theorem class_b1 (c : Int) (w : World) (h1 : c < 0) : Calls Tryd.prog 84 #[.int .i32 c] w fun e w' => e = .returned (.int .i64 5) ∧ Below w.heap.size w w' := by
  have q0 : decide (c < 0) = true := by rw [decide_eq_true_iff]; omega
  clear h1
  go_enter Tryd.func84, Tryd.ntmps84
  go_wp2
  go_ret
  exact ⟨rfl, Below.refl _ _⟩
set_option maxRecDepth 100000 in
theorem class_b2 (c : Int) (w : World) (h1 : 1114111 < c) : Calls Tryd.prog 84 #[.int .i32 c] w fun e w' => e = .returned (.int .i64 5) ∧ Below w.heap.size w w' := by
  have q0 : decide (c < 0) = false := by rw [decide_eq_false_iff_not]; omega
  have q1 : decide (1114111 < c) = true := by rw [decide_eq_true_iff]; omega
  clear h1
  go_enter Tryd.func84, Tryd.ntmps84
  go_wp2
  go_ret
  exact ⟨rfl, Below.refl _ _⟩
set_option maxRecDepth 100000 in
theorem class_b3 (c : Int) (w : World) (h1 : 55296 ≤ c) (h2 : c ≤ 57343) : Calls Tryd.prog 84 #[.int .i32 c] w fun e w' => e = .returned (.int .i64 5) ∧ Below w.heap.size w w' := by
  have q0 : decide (c < 0) = false := by rw [decide_eq_false_iff_not]; omega
  have q1 : decide (1114111 < c) = false := by rw [decide_eq_false_iff_not]; omega
  have q2 : decide (55296 ≤ c) = true := by rw [decide_eq_true_iff]; omega
  have q3 : decide (c ≤ 57343) = true := by rw [decide_eq_true_iff]; omega
  clear h1 h2
  go_enter Tryd.func84, Tryd.ntmps84
  go_wp2
  go_ret
  exact ⟨rfl, Below.refl _ _⟩
set_option maxRecDepth 100000 in
theorem class_nl (c : Int) (w : World) (h1 : c = 10) : Calls Tryd.prog 84 #[.int .i32 c] w fun e w' => e = .returned (.int .i64 1) ∧ Below w.heap.size w w' := by
  have q0 : decide (c < 0) = false := by rw [decide_eq_false_iff_not]; omega
  have q1 : decide (1114111 < c) = false := by rw [decide_eq_false_iff_not]; omega
  have q2 : decide (55296 ≤ c) = false := by rw [decide_eq_false_iff_not]; omega
  have q3 : decide (c = 10) = true := by rw [decide_eq_true_iff]; omega
  have qb : (c == 10) = true := by rw [beq_iff_eq]; omega
  clear h1
  go_enter Tryd.func84, Tryd.ntmps84
  go_wp2
  go_ret
  exact ⟨rfl, Below.refl _ _⟩
set_option maxRecDepth 100000 in
theorem class_c1 (c : Int) (w : World) (h1 : 0 ≤ c) (h2 : c < 32) (h3 : c ≠ 10) : Calls Tryd.prog 84 #[.int .i32 c] w fun e w' => e = .returned (.int .i64 2) ∧ Below w.heap.size w w' := by
  have q0 : decide (c < 0) = false := by rw [decide_eq_false_iff_not]; omega
  have q1 : decide (1114111 < c) = false := by rw [decide_eq_false_iff_not]; omega
  have q2 : decide (55296 ≤ c) = false := by rw [decide_eq_false_iff_not]; omega
  have q3 : decide (c = 10) = false := by rw [decide_eq_false_iff_not]; omega
  have q4 : decide (c < 32) = true := by rw [decide_eq_true_iff]; omega
  have qb : (c == 10) = false := by rw [beq_eq_false_iff_ne]; omega
  clear h1 h2 h3
  go_enter Tryd.func84, Tryd.ntmps84
  go_wp2
  go_ret
  exact ⟨rfl, Below.refl _ _⟩
set_option maxRecDepth 100000 in
theorem class_c2 (c : Int) (w : World) (h1 : 127 ≤ c) (h2 : c ≤ 159) : Calls Tryd.prog 84 #[.int .i32 c] w fun e w' => e = .returned (.int .i64 2) ∧ Below w.heap.size w w' := by
  have q0 : decide (c < 0) = false := by rw [decide_eq_false_iff_not]; omega
  have q1 : decide (1114111 < c) = false := by rw [decide_eq_false_iff_not]; omega
  have q2 : decide (55296 ≤ c) = false := by rw [decide_eq_false_iff_not]; omega
  have q3 : decide (c = 10) = false := by rw [decide_eq_false_iff_not]; omega
  have q4 : decide (c < 32) = false := by rw [decide_eq_false_iff_not]; omega
  have q5 : decide (127 ≤ c) = true := by rw [decide_eq_true_iff]; omega
  have q6 : decide (c ≤ 159) = true := by rw [decide_eq_true_iff]; omega
  have qb : (c == 10) = false := by rw [beq_eq_false_iff_ne]; omega
  clear h1 h2
  go_enter Tryd.func84, Tryd.ntmps84
  go_wp2
  go_ret
  exact ⟨rfl, Below.refl _ _⟩
theorem class_calls (c : Int) (w : World) : Calls Tryd.prog 84 #[.int .i32 c] w fun e w' => e = .returned (.int .i64 (clsOf c)) ∧ Below w.heap.size w w' := by
  have M := Lib.hid (fun W blk hr => wmarks c blk W hr)
  have V := Lib.hid (fun W blk hr => wwides c blk W hr)
  unfold clsOf
  by_cases h1 : c < 0
  · rw [if_pos (.inl h1)]; exact class_b1 c w h1
  by_cases h2 : 1114111 < c
  · rw [if_pos (.inr (.inl h2))]; exact class_b2 c w h2
  by_cases h3 : 55296 ≤ c ∧ c ≤ 57343
  · rw [if_pos (.inr (.inr h3))]; exact class_b3 c w h3.1 h3.2
  rw [if_neg (by omega)]
  by_cases h4 : c = 10
  · rw [if_pos h4]; exact class_nl c w h4
  rw [if_neg h4]
  by_cases h5 : c < 32
  · rw [if_pos (.inl h5)]; exact class_c1 c w (by omega) h5 h4
  by_cases h6 : 127 ≤ c ∧ c ≤ 159
  · rw [if_pos (.inr h6)]; exact class_c2 c w h6.1 h6.2
  rw [if_neg (by omega)]
  rcases (by omega : c < 127 ∨ (159 < c ∧ c < 55296) ∨ 57343 < c) with h | ⟨h, h'⟩ | h
  · exact class_t1 c w (by omega) h _ _ M V
  · exact class_t2 c w h h' _ _ M V
  · exact class_t3 c w h (by omega) _ _ M V
set_option maxRecDepth 100000 in
theorem cells_calls (c : Int) (w : World) : Calls Tryd.prog 85 #[.int .i32 c] w fun e w' => e = .returned (.int .i64 (celOf c)) ∧ Below w.heap.size w w' := by
  have hc := fun W => class_calls c W
  unfold celOf
  obtain ⟨k, hk⟩ : ∃ k, clsOf c = k := ⟨_, rfl⟩
  have hr := cls_range c
  rw [hk] at hr ⊢
  simp only [hk] at hc
  have HC := Lib.hid hc
  clear hc hk
  obtain ⟨a, ha⟩ : ∃ a, decide (c ≤ 127) = a := ⟨_, rfl⟩
  have hcv : (if k = 1 then (0 : Int) else if k = 4 then 2 else if k = 2 ∧ c ≤ 127 then 2 else 1) = (if k = 1 then (0 : Int) else if k = 4 then 2 else if k = 2 ∧ a = true then 2 else 1) := by
    simp only [← ha, decide_eq_true_iff]
  rw [hcv]
  clear hcv
  rcases (by omega : k = 0 ∨ k = 1 ∨ k = 2 ∨ k = 3 ∨ k = 4 ∨ k = 5) with rfl | rfl | rfl | rfl | rfl | rfl
  all_goals cases a
  all_goals simp only [decide_eq_true_eq, decide_eq_false_iff_not] at ha
  all_goals go_enter Tryd.func85, Tryd.ntmps85
  all_goals go_wp2_with (go_at_call 84; (with_reducible refine (HC.out _).mono ?_); rintro e w1 ⟨rfl, b1⟩)
  all_goals go_ret
  all_goals exact ⟨rfl, b1⟩
end Go.Proofs.YtoodidokjchplaaDoor.Un
