/- cluster.glued, Boundary, Next, made: walked. -/
import Derived.Test.YtoodidokjchplaaDoorMeX
namespace Go.Proofs.YtoodidokjchplaaDoor.Un
open Go Go.RowKit Go.Shelf
open Go.Proofs.YtoodidokjchplaaDoor.Wk (bcell bel_drew bel_drewN bel_alloc bel_set bel_call size_len mk_data beq_true_i bne_true_i bne_false_i beq_false_i drop_cons var_below blk_cell blk_below blk_lt blk_alloc)
set_option linter.unusedVariables false
set_option linter.unusedSimpArgs false
set_option maxRecDepth 100000 in
set_option maxHeartbeats 4000000 in
theorem glued_calls (u v : Int) (w : World) : Calls Tryd.prog 102 #[.int .i32 u, .int .i32 v] w fun e w' => e = .returned (.bool (glue u v)) ∧ Below w.heap.size w w' := by
  have hk := fun W => class_calls u W
  have hm := fun W => class_calls v W
  unfold glue
  obtain ⟨k, ek⟩ : ∃ k, clsOf u = k := ⟨_, rfl⟩
  obtain ⟨m, em⟩ : ∃ m, clsOf v = m := ⟨_, rfl⟩
  have rk := cls_range u
  rw [ek] at rk
  simp only [ek] at hk ⊢
  simp only [em] at hm ⊢
  have HK := Lib.hid hk
  have HM := Lib.hid hm
  clear hk hm ek em
  by_cases hu : u = 13 ∧ v = 10
  · obtain ⟨rfl, rfl⟩ := hu
    go_enter Tryd.func102, Tryd.ntmps102
    go_wp2
    go_ret
    exact ⟨rfl, Below.refl _ _⟩
  have q : decide (u = 13 ∧ v = 10) = false := decide_eq_false hu
  rw [q, Bool.false_or]
  clear q
  have fin : ∀ (r : Bool), (decide (m = 3) && (decide (k ≠ 1) && decide (k ≠ 2))) = r → Calls Tryd.prog 102 #[.int .i32 u, .int .i32 v] w fun e w' => e = .returned (.bool r) ∧ Below w.heap.size w w' := by
    intro r hr
    have hh : (decide (u = 13) = false ∧ (u == 13) = false) ∨ ((decide (u = 13) = true ∧ (u == 13) = true) ∧ decide (v = 10) = false ∧ (v == 10) = false) := by
      by_cases h1 : u = 13
      · right
        have h2 : v ≠ 10 := fun h => hu ⟨h1, h⟩
        exact ⟨⟨decide_eq_true h1, by rw [beq_iff_eq]; exact h1⟩, decide_eq_false h2, by rw [beq_eq_false_iff_ne]; exact h2⟩
      · left
        exact ⟨decide_eq_false h1, by rw [beq_eq_false_iff_ne]; exact h1⟩
    clear hu
    by_cases m3 : m = 3
    · subst m3
      rcases (by omega : k = 1 ∨ k = 2 ∨ (k ≠ 1 ∧ k ≠ 2)) with rfl | rfl | ⟨k1, k2⟩
      · obtain rfl : false = r := hr
        rcases hh with ⟨h1, h1'⟩ | ⟨⟨h1, h1'⟩, h2, h2'⟩
        all_goals go_enter Tryd.func102, Tryd.ntmps102
        all_goals go_wp2_with (go_at_call 84; first | ((with_reducible refine (HK.out _).mono ?_); rintro e w1 ⟨rfl, b1⟩) | ((with_reducible refine (HM.out _).mono ?_); rintro e w2 ⟨rfl, b2⟩))
        all_goals go_ret
        all_goals exact ⟨rfl, bel_call b1 b2⟩
      · obtain rfl : false = r := hr
        rcases hh with ⟨h1, h1'⟩ | ⟨⟨h1, h1'⟩, h2, h2'⟩
        all_goals go_enter Tryd.func102, Tryd.ntmps102
        all_goals go_wp2_with (go_at_call 84; first | ((with_reducible refine (HK.out _).mono ?_); rintro e w1 ⟨rfl, b1⟩) | ((with_reducible refine (HM.out _).mono ?_); rintro e w2 ⟨rfl, b2⟩))
        all_goals go_ret
        all_goals exact ⟨rfl, bel_call b1 b2⟩
      · have g1 : decide (k = 1) = false := decide_eq_false k1
        have g2 : decide (k = 2) = false := decide_eq_false k2
        have g1' : (k == 1) = false := by rw [beq_eq_false_iff_ne]; exact k1
        have g2' : (k == 2) = false := by rw [beq_eq_false_iff_ne]; exact k2
        have g1b : (k != 1) = true := by rw [bne_iff_ne]; exact k1
        have g2b : (k != 2) = true := by rw [bne_iff_ne]; exact k2
        obtain rfl : true = r := by rw [← hr, decide_eq_true k1, decide_eq_true k2]; rfl
        clear hr
        rcases hh with ⟨h1, h1'⟩ | ⟨⟨h1, h1'⟩, h2, h2'⟩
        all_goals go_enter Tryd.func102, Tryd.ntmps102
        all_goals go_wp2_with (go_at_call 84; first | ((with_reducible refine (HK.out _).mono ?_); rintro e w1 ⟨rfl, b1⟩) | ((with_reducible refine (HM.out _).mono ?_); rintro e w2 ⟨rfl, b2⟩))
        all_goals go_ret
        all_goals exact ⟨rfl, bel_call b1 b2⟩
    · obtain rfl : false = r := by rw [← hr, decide_eq_false m3]; rfl
      have g1 : decide (m = 3) = false := decide_eq_false m3
      have g1' : (m == 3) = false := by rw [beq_eq_false_iff_ne]; exact m3
      clear hr m3
      rcases hh with ⟨h1, h1'⟩ | ⟨⟨h1, h1'⟩, h2, h2'⟩
      all_goals go_enter Tryd.func102, Tryd.ntmps102
      all_goals go_wp2_with (go_at_call 84; first | ((with_reducible refine (HK.out _).mono ?_); rintro e w1 ⟨rfl, b1⟩) | ((with_reducible refine (HM.out _).mono ?_); rintro e w2 ⟨rfl, b2⟩))
      all_goals go_ret
      all_goals exact ⟨rfl, bel_call b1 b2⟩
  exact fin _ rfl
set_option maxRecDepth 100000 in
set_option maxHeartbeats 4000000 in
/-- Boundary where units begin. -/
theorem bdry_in (s : ByteArray) (p i k k2 : Nat) (c d : Int) (hi : i < s.size) (hs : s.size ≤ 1000000000) (hi0 : Stt s.data.toList i) (hp0 : Stt s.data.toList p) (hc : chAt s.data.toList p = c) (hk : szAt s.data.toList p = k) (hpi : p + k = i)
    (hd : chAt s.data.toList i = d) (hk2 : szAt s.data.toList i = k2) (g : Bool) (hg : glue c d = g) (w : World) (hT : Tb w) :
    Calls Tryd.prog 82 #[.string s, .int .i64 i] w fun e w' => e = .returned (.bool (!g)) ∧ Below w.heap.size w w' := by
  have hkp := sz_pos s.data.toList p
  rw [hk] at hkp
  have hpr : (arL s.data.toList (i - 1)).1 = p := by
    obtain ⟨e1, e2, e3⟩ := arL_prev hi0 (by omega)
    exact prev_only e2 hp0 e3 (by rw [hk]; exact hpi)
  have B := Lib.hid (fun W hW => boundary_stt s i (by omega) hs hi0 W hW)
  have PV := Lib.hid (fun W hW => prev_at s i p (by omega) (by omega) hs hpr W hW)
  have A1 := Lib.hid (fun W hW => at_stt s p k c (by omega) hs hp0 hc hk W hW)
  have A2 := Lib.hid (fun W hW => at_stt s i k2 d hi hs hi0 hd hk2 W hW)
  have G := Lib.hid (fun W => glued_calls c d W)
  rw [hg] at G
  have HT := Lib.hid hT
  have q0 : decide ((i : Int) ≤ 0) = false := by rw [decide_eq_false_iff_not]; omega
  have q1 : decide ((s.size : Int) ≤ i) = false := by rw [decide_eq_false_iff_not]; omega
  have q2 : decide (s.size ≤ i) = false := by rw [decide_eq_false_iff_not]; omega
  have hii : (i : Int) < s.size := by omega
  have hi1 : 0 < i := by omega
  have hi2 : ¬ i = 0 := by omega
  have q3 : decide (i = 0) = false := decide_eq_false hi2
  have hne : p ≠ i := by omega
  clear hT hi0 hp0 hc hk hd hk2 hg hpr hpi
  go_enter Tryd.func82, Tryd.ntmps82
  go_wp2_with (first
    | (go_at_call 100; (with_reducible refine (B.out _ HT.out).mono ?_); rintro e w1 ⟨rfl, b1⟩)
    | (go_at_call 101; (with_reducible refine (PV.out _ (HT.out.below b1)).mono ?_); rintro e w2 ⟨rfl, b2⟩)
    | (go_at_call 83; (with_reducible refine (A1.out _ (HT.out.below (bel_call b1 b2))).mono ?_); rintro e w3 ⟨rfl, b3⟩)
    | (go_at_call 83; (with_reducible refine (A2.out _ (HT.out.below (bel_alloc (bel_call (bel_call b1 b2) b3) _))).mono ?_); rintro e w4 ⟨rfl, b4⟩; have x0 := blk_cell (blk_below (heap_alloc_new w3 (.cells #[.int .i32 c, .int .i64 (k : Nat)] 88)) b4) 0; simp only [List.getElem?_toArray, List.getElem?_cons_zero] at x0; have z4 := lt_alloc b4)
    | (go_at_call 102; (with_reducible refine (G.out _).mono ?_); rintro e w5 ⟨rfl, b5⟩))
  go_ret
  exact ⟨rfl, bel_call (bel_alloc (bel_call (bel_alloc (bel_call (bel_call b1 b2) b3) _) b4) _) b5⟩
end Go.Proofs.YtoodidokjchplaaDoor.Un
