/- The reference's Cells, joined: walked. -/
import Derived.Test.YtoodidokjchplaaDoorRV
namespace Go.Proofs.YtoodidokjchplaaDoor.Un
open Go Go.RowKit Go.Shelf
open Go.Proofs.YtoodidokjchplaaDoor.Wk (bcell bel_drew bel_drewN bel_alloc bel_set bel_call size_len blk_cell blk_below blk_lt mk_data cells_new)
set_option linter.unusedVariables false
set_option linter.unusedSimpArgs false
set_option maxRecDepth 100000 in
set_option maxHeartbeats 8000000 in
theorem rcells_calls (c : Int) (w : World) : Calls Tryd.prog 65 #[.int .i32 c] w fun e w' => e = .returned (.int .i64 (celOf c)) ∧ Below w.heap.size w w' := by
  have hc := fun W => rclass_calls c W
  unfold celOf
  obtain ⟨k, hk⟩ : ∃ k, clsOf c = k := ⟨_, rfl⟩
  have hr := cls_range c
  rw [hk] at hr ⊢
  simp only [hk] at hc
  have HC := Lib.hid hc
  clear hc hk
  obtain ⟨a, ha⟩ : ∃ a, decide (c ≤ 127) = a := ⟨_, rfl⟩
  have hcv : (if k = 1 then (0 : Int) else if k = 4 then 2 else if k = 2 ∧ c ≤ 127 then 2 else 1) = (if k = 1 then (0 : Int) else if k = 4 then 2 else if k = 2 ∧ a = true then 2 else 1) := by
    simp only [← ha, decide_eq_true_iff]
  rw [hcv]
  clear hcv
  rcases (by omega : k = 0 ∨ k = 1 ∨ k = 2 ∨ k = 3 ∨ k = 4 ∨ k = 5) with rfl | rfl | rfl | rfl | rfl | rfl
  all_goals cases a
  all_goals simp only [decide_eq_true_eq, decide_eq_false_iff_not] at ha
  all_goals go_enter Tryd.func65, Tryd.ntmps65
  all_goals go_wp2_with (go_at_call 64; (with_reducible refine (HC.out _).mono ?_); rintro e w1 ⟨rfl, b1⟩)
  all_goals go_ret
  all_goals exact ⟨rfl, b1⟩
theorem han1 (w : World) (o o' : Obj) : ((w.alloc o').alloc o).heap[w.heap.size + 1]? = some o := by
  have h := heap_alloc_new (w.alloc o') o
  rw [Wk.size_alloc] at h
  exact h
set_option maxRecDepth 100000 in
set_option maxHeartbeats 8000000 in
theorem rjoined_calls (u v nu nv : Int) (w : World) : Calls Tryd.prog 63 #[.agg #[.int .i32 u, .int .i64 nu], .agg #[.int .i32 v, .int .i64 nv]] w fun e w' => e = .returned (.bool (glue u v)) ∧ Below w.heap.size w w' := by
  have hk := fun W => rclass_calls u W
  have hm := fun W => rclass_calls v W
  unfold glue
  obtain ⟨k, ek⟩ : ∃ k, clsOf u = k := ⟨_, rfl⟩
  obtain ⟨m, em⟩ : ∃ m, clsOf v = m := ⟨_, rfl⟩
  have rk := cls_range u
  rw [ek] at rk
  simp only [ek] at hk ⊢
  simp only [em] at hm ⊢
  have HK := Lib.hid hk
  have HM := Lib.hid hm
  clear hk hm ek em
  by_cases hu : u = 13 ∧ v = 10
  · obtain ⟨rfl, rfl⟩ := hu
    go_enter Tryd.func63, Tryd.ntmps63
    go_wp2
    go_ret
    exact ⟨rfl, bel_alloc (bel_alloc (Below.refl _ w) _) _⟩
  have q : decide (u = 13 ∧ v = 10) = false := decide_eq_false hu
  rw [q, Bool.false_or]
  clear q
  have fin : ∀ (r : Bool), (decide (m = 3) && (decide (k ≠ 1) && decide (k ≠ 2))) = r → Calls Tryd.prog 63 #[.agg #[.int .i32 u, .int .i64 nu], .agg #[.int .i32 v, .int .i64 nv]] w fun e w' => e = .returned (.bool r) ∧ Below w.heap.size w w' := by
    intro r hr
    have hh : (decide (u = 13) = false ∧ (u == 13) = false) ∨ ((decide (u = 13) = true ∧ (u == 13) = true) ∧ decide (v = 10) = false ∧ (v == 10) = false) := by
      by_cases h1 : u = 13
      · right
        have h2 : v ≠ 10 := fun h => hu ⟨h1, h⟩
        exact ⟨⟨decide_eq_true h1, by rw [beq_iff_eq]; exact h1⟩, decide_eq_false h2, by rw [beq_eq_false_iff_ne]; exact h2⟩
      · left
        exact ⟨decide_eq_false h1, by rw [beq_eq_false_iff_ne]; exact h1⟩
    clear hu
    by_cases m3 : m = 3
    · subst m3
      rcases (by omega : k = 1 ∨ k = 2 ∨ (k ≠ 1 ∧ k ≠ 2)) with rfl | rfl | ⟨k1, k2⟩
      · obtain rfl : false = r := hr
        rcases hh with ⟨h1, h1'⟩ | ⟨⟨h1, h1'⟩, h2, h2'⟩
        all_goals go_enter Tryd.func63, Tryd.ntmps63
        all_goals go_wp2_with (go_at_call 64; first | ((with_reducible refine (HK.out _).mono ?_); rintro e w1 ⟨rfl, b1⟩; have c1 := blk_cell (blk_below (han1 w (.cells #[.int .i32 v, .int .i64 nv] 88) (.cells #[.int .i32 u, .int .i64 nu] 88)) b1) 0; simp only [List.getElem?_toArray, List.getElem?_cons_zero] at c1; have b0 := bel_call (bel_alloc (bel_alloc (Below.refl _ w) (.cells #[.int .i32 u, .int .i64 nu] 88)) (.cells #[.int .i32 v, .int .i64 nv] 88)) b1) | ((with_reducible refine (HM.out _).mono ?_); rintro e w2 ⟨rfl, b2⟩))
        all_goals go_ret
        all_goals exact ⟨rfl, bel_call b0 b2⟩
      · obtain rfl : false = r := hr
        rcases hh with ⟨h1, h1'⟩ | ⟨⟨h1, h1'⟩, h2, h2'⟩
        all_goals go_enter Tryd.func63, Tryd.ntmps63
        all_goals go_wp2_with (go_at_call 64; first | ((with_reducible refine (HK.out _).mono ?_); rintro e w1 ⟨rfl, b1⟩; have c1 := blk_cell (blk_below (han1 w (.cells #[.int .i32 v, .int .i64 nv] 88) (.cells #[.int .i32 u, .int .i64 nu] 88)) b1) 0; simp only [List.getElem?_toArray, List.getElem?_cons_zero] at c1; have b0 := bel_call (bel_alloc (bel_alloc (Below.refl _ w) (.cells #[.int .i32 u, .int .i64 nu] 88)) (.cells #[.int .i32 v, .int .i64 nv] 88)) b1) | ((with_reducible refine (HM.out _).mono ?_); rintro e w2 ⟨rfl, b2⟩))
        all_goals go_ret
        all_goals exact ⟨rfl, bel_call b0 b2⟩
      · have g1 : decide (k = 1) = false := decide_eq_false k1
        have g2 : decide (k = 2) = false := decide_eq_false k2
        have g1' : (k == 1) = false := by rw [beq_eq_false_iff_ne]; exact k1
        have g2' : (k == 2) = false := by rw [beq_eq_false_iff_ne]; exact k2
        have g1b : (k != 1) = true := by rw [bne_iff_ne]; exact k1
        have g2b : (k != 2) = true := by rw [bne_iff_ne]; exact k2
        obtain rfl : true = r := by rw [← hr, decide_eq_true k1, decide_eq_true k2]; rfl
        clear hr
        rcases hh with ⟨h1, h1'⟩ | ⟨⟨h1, h1'⟩, h2, h2'⟩
        all_goals go_enter Tryd.func63, Tryd.ntmps63
        all_goals go_wp2_with (go_at_call 64; first | ((with_reducible refine (HK.out _).mono ?_); rintro e w1 ⟨rfl, b1⟩; have c1 := blk_cell (blk_below (han1 w (.cells #[.int .i32 v, .int .i64 nv] 88) (.cells #[.int .i32 u, .int .i64 nu] 88)) b1) 0; simp only [List.getElem?_toArray, List.getElem?_cons_zero] at c1; have b0 := bel_call (bel_alloc (bel_alloc (Below.refl _ w) (.cells #[.int .i32 u, .int .i64 nu] 88)) (.cells #[.int .i32 v, .int .i64 nv] 88)) b1) | ((with_reducible refine (HM.out _).mono ?_); rintro e w2 ⟨rfl, b2⟩))
        all_goals go_ret
        all_goals exact ⟨rfl, bel_call b0 b2⟩
    · obtain rfl : false = r := by rw [← hr, decide_eq_false m3]; rfl
      have g1 : decide (m = 3) = false := decide_eq_false m3
      have g1' : (m == 3) = false := by rw [beq_eq_false_iff_ne]; exact m3
      clear hr m3
      rcases hh with ⟨h1, h1'⟩ | ⟨⟨h1, h1'⟩, h2, h2'⟩
      all_goals go_enter Tryd.func63, Tryd.ntmps63
      all_goals go_wp2_with (go_at_call 64; first | ((with_reducible refine (HK.out _).mono ?_); rintro e w1 ⟨rfl, b1⟩; have c1 := blk_cell (blk_below (han1 w (.cells #[.int .i32 v, .int .i64 nv] 88) (.cells #[.int .i32 u, .int .i64 nu] 88)) b1) 0; simp only [List.getElem?_toArray, List.getElem?_cons_zero] at c1; have b0 := bel_call (bel_alloc (bel_alloc (Below.refl _ w) (.cells #[.int .i32 u, .int .i64 nu] 88)) (.cells #[.int .i32 v, .int .i64 nv] 88)) b1) | ((with_reducible refine (HM.out _).mono ?_); rintro e w2 ⟨rfl, b2⟩))
      all_goals go_ret
      all_goals exact ⟨rfl, bel_call b0 b2⟩
  exact fin _ rfl
end Go.Proofs.YtoodidokjchplaaDoor.Un
