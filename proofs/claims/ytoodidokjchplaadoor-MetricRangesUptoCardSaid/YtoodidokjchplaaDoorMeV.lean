/- unit.Boundary, At, Next, Prev, Down at places where units begin: walked. -/
import Derived.Test.YtoodidokjchplaaDoorMeU
namespace Go.Proofs.YtoodidokjchplaaDoor.Un
open Go Go.RowKit
open Go.Proofs.YtoodidokjchplaaDoor.Wk (bcell bel_drew bel_drewN bel_alloc bel_set bel_call size_len mk_data beq_true_i bne_true_i bne_false_i beq_false_i drop_cons var_below blk_cell blk_below blk_lt blk_alloc)
set_option linter.unusedVariables false
set_option linter.unusedSimpArgs false
theorem lt_alloc {w wz : World} {o : Obj} (hb : Below (w.alloc o).heap.size (w.alloc o) wz) : w.heap.size < wz.heap.size := by have := hb.size; simp at this; omega
theorem lt_next {w1 w2 : World} {n : Nat} (h : n < w1.heap.size) (hb : Below w1.heap.size w1 w2) : n < w2.heap.size := by have := hb.size; omega
set_option maxRecDepth 100000 in
theorem boundary_stt (s : ByteArray) (i : Nat) (hi : i ≤ s.size) (hs : s.size ≤ 1000000000) (h : Stt s.data.toList i) (w : World) (hT : Tb w) :
    Calls Tryd.prog 100 #[.string s, .int .i64 i] w fun e w' => e = .returned (.bool true) ∧ Below w.heap.size w w' := by
  have ha := arL_stt h
  obtain ⟨b, hb0⟩ : ∃ b, (if i = s.data.toList.length then i else i + szAt s.data.toList i) = b := ⟨_, rfl⟩
  rw [hb0] at ha
  have ac := around_calls s i hi hs w hT
  rw [ha] at ac
  have AC := Lib.hid ac
  have q0 : decide ((i : Int) < 0) = false := by rw [decide_eq_false_iff_not]; omega
  have q1 : decide ((s.size : Int) < i) = false := by rw [decide_eq_false_iff_not]; omega
  have q2 : decide (s.size < i) = false := by rw [decide_eq_false_iff_not]; omega
  clear ha hb0 ac h
  go_enter Tryd.func100, Tryd.ntmps100
  go_wp2_with (go_at_call 99; (with_reducible refine AC.out.mono ?_); rintro e wz ⟨rfl, hb⟩)
  go_ret
  exact ⟨rfl, hb⟩
set_option maxRecDepth 100000 in
theorem at_stt (s : ByteArray) (i k : Nat) (c : Int) (hi : i < s.size) (hs : s.size ≤ 1000000000) (h : Stt s.data.toList i) (hc0 : chAt s.data.toList i = c) (hk : szAt s.data.toList i = k) (w : World) (hT : Tb w) :
    Calls Tryd.prog 83 #[.string s, .int .i64 i] w fun e w' => e = .returned (.tuple #[.agg #[.int .i32 c, .int .i64 (k : Nat)], .bool true]) ∧ Below w.heap.size w w' := by
  obtain ⟨t, ht⟩ : ∃ t, s.extract i s.size = t := ⟨_, rfl⟩
  have fc := Lib.hid (fun W hW => first_at s t i k c ht hi hc0 hk W hW)
  have bc := Lib.hid (fun W hW => boundary_stt s i (by omega) hs h W hW)
  have HT := Lib.hid hT
  have q0 : decide ((i : Int) < 0) = false := by rw [decide_eq_false_iff_not]; omega
  have q1 : decide ((s.size : Int) ≤ i) = false := by rw [decide_eq_false_iff_not]; omega
  have q2 : decide (s.size ≤ i) = false := by rw [decide_eq_false_iff_not]; omega
  have j0 : (0 : Int) ≤ i := by omega
  have js : (i : Int) ≤ s.size := by omega
  clear hT h hc0 hk
  go_enter Tryd.func83, Tryd.ntmps83
  go_wp2_with (first
    | (go_at_call 100; (with_reducible refine (bc.out _ (HT.out.below ((Below.refl _ _).alloc (Nat.le_refl _) _))).mono ?_); rintro e wz ⟨rfl, hb⟩; obtain ⟨hc, hf⟩ := bcell hb; have hz' := lt_alloc hb)
    | (go_at_call 103; (try rw [ht]); (with_reducible refine (fc.out _ (HT.out.below (bel_call ((Below.refl _ _).alloc (Nat.le_refl _) _) hb))).mono ?_); rintro e wy ⟨rfl, hb2⟩; obtain ⟨hc2, hf2⟩ := bcell hb2; have hy' := lt_next hz' hb2))
  refine bodyPost_ret (v := .tuple #[.agg #[.int .i32 c, .int .i64 (k : Nat)], .bool true]) (by simp [results, Tryd.results83, go_sem, hc, hc2, hz']) rfl ⟨rfl, ?_⟩
  repeat (with_reducible first | refine bel_call ?_ hb2 | refine bel_call ?_ hb | refine bel_alloc ?_ _ | refine bel_set ?_ (Nat.le_refl _) _ | exact Below.refl _ _)
set_option maxRecDepth 100000 in
theorem next_stt (s : ByteArray) (i n : Nat) (hi : i < s.size) (hs : s.size ≤ 1000000000) (h : Stt s.data.toList i) (hn : i + szAt s.data.toList i = n) (w : World) (hT : Tb w) :
    Calls Tryd.prog 81 #[.string s, .int .i64 i] w fun e w' => e = .returned (.int .i64 n) ∧ Below w.heap.size w w' := by
  have ha := arL_stt h
  rw [if_neg (by rw [size_len]; omega), hn] at ha
  have ac := around_calls s i (by omega) hs w hT
  rw [ha] at ac
  have AC := Lib.hid ac
  have q0 : decide ((i : Int) < 0) = false := by rw [decide_eq_false_iff_not]; omega
  have hm : min (i : Int) s.size = i := by omega
  clear ha ac h hn
  go_enter Tryd.func81, Tryd.ntmps81
  go_wp2_with (go_at_call 99; (with_reducible refine AC.out.mono ?_); rintro e wz ⟨rfl, hb⟩)
  go_ret
  exact ⟨rfl, hb⟩
set_option maxRecDepth 100000 in
theorem down_at (s : ByteArray) (i p : Nat) (hi : i ≤ s.size) (hs : s.size ≤ 1000000000) (hp : (arL s.data.toList i).1 = p) (w : World) (hT : Tb w) :
    Calls Tryd.prog 112 #[.string s, .int .i64 i] w fun e w' => e = .returned (.int .i64 p) ∧ Below w.heap.size w w' := by
  have ac := around_calls s i (by omega) hs w hT
  obtain ⟨b, hb0⟩ : ∃ b, (arL s.data.toList i).2 = b := ⟨_, rfl⟩
  rw [hp, hb0] at ac
  have AC := Lib.hid ac
  have hm0 : max (i : Int) 0 = i := by omega
  have hm : min (i : Int) s.size = i := by omega
  clear hp hb0 ac
  go_enter Tryd.func112, Tryd.ntmps112
  go_wp2_with (go_at_call 99; (with_reducible refine AC.out.mono ?_); rintro e wz ⟨rfl, hb⟩)
  go_ret
  exact ⟨rfl, hb⟩
set_option maxRecDepth 100000 in
theorem prev_at (s : ByteArray) (i p : Nat) (h0 : 0 < i) (hi : i ≤ s.size) (hs : s.size ≤ 1000000000) (hp : (arL s.data.toList (i - 1)).1 = p) (w : World) (hT : Tb w) :
    Calls Tryd.prog 101 #[.string s, .int .i64 i] w fun e w' => e = .returned (.int .i64 p) ∧ Below w.heap.size w w' := by
  have ac := Lib.hid (down_at s (i - 1) p (by omega) hs hp w hT)
  have q0 : decide ((i : Int) ≤ 0) = false := by rw [decide_eq_false_iff_not]; omega
  have h1 : (i : Int) - 1 = ((i - 1 : Nat) : Int) := by omega
  have hm : min (i : Int) s.size = i := by omega
  obtain ⟨k, rfl⟩ : ∃ k, i = k + 1 := ⟨i - 1, by omega⟩
  have hm2 : min (k : Int) s.size = k := by omega
  simp only [Nat.add_sub_cancel] at ac h1
  clear hp h1 hm
  go_enter Tryd.func101, Tryd.ntmps101
  go_wp2_with (go_at_call 112; (with_reducible refine ac.out.mono ?_); rintro e wz ⟨rfl, hb⟩)
  go_ret
  exact ⟨rfl, hb⟩
end Go.Proofs.YtoodidokjchplaaDoor.Un
