/- utf8.FullRuneInString: walked. -/
import Derived.Test.YtjjilhfebkeoeaaDoorKyA
import Derived.Test.YtjjilhfebkeoeaaDoorShelf
import Derived.Test.YtjjilhfebkeoeaaDoorWk
import Derived.Lib.LaidTab
import Derived.LoopTactic
import Derived.Deep.LoopGhost
import Derived.Outline
import Derived.Lib.Hide
import Derived.BigQuiet
import Derived.BigRegion
namespace Go.Proofs.YtjjilhfebkeoeaaDoor.Ky
open Go Go.RowKit
open Go.Proofs.YtjjilhfebkeoeaaDoor.Wk (bcell bel_drew bel_drewN bel_alloc bel_set bel_call size_len mk_data beq_true_i bne_true_i bne_false_i beq_false_i drop_cons var_below)
set_option linter.unusedVariables false
set_option linter.unusedSimpArgs false

theorem full_lead {n : Nat} {X : Nat} (h : Lib.firstT n = X) (hX : X < 240) : lead n = (X % 8, Lib.accLo (X / 16), Lib.accHi (X / 16)) := by rw [lead_T, if_pos (by omega), h]
theorem full_none {n : Nat} (h : ¬ Lib.firstT n < 240) : (lead n).1 = 0 := by rw [lead_T, if_neg h]
theorem begun_one {s : ByteArray} {a : UInt8} {r : List UInt8} (hl : s.data.toList = a :: r) (hs : s.size = 1) (h : 2 ≤ (lead a.toNat).1) : begun s.data.toList = true := by
  have := size_len s
  rw [hl] at this ⊢
  cases r with
  | nil => simp [begun, h]
  | cons b r => simp at this; omega
theorem begun_two {s : ByteArray} {a : UInt8} {r : List UInt8} (hl : s.data.toList = a :: r) (hs : s.size = 2) (g1 : 1 < s.size) (h : 3 ≤ (lead a.toNat).1) : begun s.data.toList = sec a s[1] := by
  have := size_len s
  have h1 := drop_cons s 1 (by omega)
  rw [hl] at this h1 ⊢
  match r, this, h1 with
  | [], this, _ => simp at this; omega
  | [b], _, h1 => simp only [List.drop_succ_cons, List.drop_zero, List.cons.injEq] at h1; simp [begun, h, h1.1]
  | b :: c :: r, this, _ => simp at this; omega
theorem begun_thr {s : ByteArray} {a : UInt8} {r : List UInt8} (hl : s.data.toList = a :: r) (hs : s.size = 3) (g1 : 1 < s.size) (g2 : 2 < s.size) (h : 4 ≤ (lead a.toNat).1) : begun s.data.toList = (sec a s[1] && cont s[2]) := by
  have := size_len s
  have h1 := drop_cons s 1 (by omega)
  have h2 := drop_cons s 2 (by omega)
  rw [hl] at this h1 h2 ⊢
  match r, this, h1, h2 with
  | [], this, _, _ => simp at this; omega
  | [b], this, _, _ => simp at this; omega
  | [b, c], _, h1, h2 =>
    simp only [List.drop_succ_cons, List.drop_zero, List.cons.injEq] at h1 h2
    simp [begun, h, h1.1, h2.1]
  | b :: c :: d :: r, this, _, _ => simp at this; omega
theorem begun_long {s : ByteArray} {a : UInt8} {r : List UInt8} (hl : s.data.toList = a :: r) (h : (lead a.toNat).1 ≤ s.size) : begun s.data.toList = false := by
  have := size_len s
  have h4 := lead_cases a.toNat
  rw [hl] at this ⊢
  match r, this with
  | [], this => simp [begun]; simp at this; omega
  | [b], this => simp [begun]; simp at this; omega
  | [b, c], this => simp [begun]; simp at this; omega
  | b :: c :: d :: r, _ => rfl
set_option maxHeartbeats 4000000 in
set_option maxRecDepth 1000000 in
theorem full_calls (s : ByteArray) (h0 : 0 < s.size) (w : World) (hT : Tb w) :
    Calls Tryd.prog 81 #[.string s] w fun e w' => e = .returned (.bool (!begun s.data.toList)) ∧ Below w.heap.size w w' := by
  obtain ⟨a, r, hl⟩ : ∃ a r, s.data.toList = a :: r := List.exists_cons_of_ne_nil (fun e => by have := size_len s; rw [e] at this; simp at this; omega)
  have hs0 : s[0] = a := by
    have := drop_cons s 0 h0
    rw [hl] at this
    simp only [List.drop_zero, List.cons.injEq] at this
    exact this.1.symm
  have hz0 : (0 : Int) < (s.size : Int) := by omega
  have l0 := a.toNat_lt
  have hc0 := hT.u.1 a.toNat l0
  rw [← hs0] at hc0 hl l0
  by_cases hX : Lib.firstT s[0].toNat < 240
  · have hL := full_lead rfl hX
    rcases Lib.firstT_cases s[0].toNat with g | g | g | g | g | g | g | g | g
    · rw [g] at hX; exact absurd hX (by decide)
    · rw [g] at hX; exact absurd hX (by decide)
    all_goals
      clear hX hs0
      rw [g] at hc0 hL
      have ha := hT.u.2
      have ha0 := ha 0 (by decide)
      have ha1 := ha 1 (by decide)
      have ha2 := ha 2 (by decide)
      have ha3 := ha 3 (by decide)
      have ha4 := ha 4 (by decide)
      simp only [Lib.accLo, Lib.accHi, Nat.reduceMul, Nat.reduceAdd, Nat.reduceEqDiff, if_true, if_false, Nat.reduceMod, Nat.reduceDiv] at ha0 ha1 ha2 ha3 ha4 hL
      obtain ⟨ha00, ha01⟩ := ha0
      obtain ⟨ha10, ha11⟩ := ha1
      obtain ⟨ha20, ha21⟩ := ha2
      obtain ⟨ha30, ha31⟩ := ha3
      obtain ⟨ha40, ha41⟩ := ha4
      have HL := Lib.hid hL
      have Hl := Lib.hid hl
      clear ha hT hL hl g
      have h1 : (lead s[0].toNat).1 ≤ s.size ∨ s.size = 1 ∨ (s.size = 2 ∧ 3 ≤ (lead s[0].toNat).1) ∨ (s.size = 3 ∧ 4 ≤ (lead s[0].toNat).1) := by
        have := lead_cases s[0].toNat
        omega
      rcases h1 with h1 | h1 | ⟨h1, h3⟩ | ⟨h1, h3⟩
      · have H : Hid (begun s.data.toList = false) := begun_long Hl.out h1
        have hn : ((lead s[0].toNat).1 : Int) ≤ s.size := by omega
        rw [HL.out] at hn
        simp only [Int.cast_ofNat_Int] at hn
        clear h1
        go_enter Tryd.func81, Tryd.ntmps81
        go_wp2
        go_ret
        exact ⟨ret_b (by rw [H.out]; rfl), Below.refl _ _⟩
      · have H : Hid (begun s.data.toList = true) := begun_one Hl.out h1 (by rw [HL.out]; decide)
        have hn : (s.size : Int) ≤ 1 := by omega
        have q0 : decide ((1 : Int) < s.size) = false := by rw [decide_eq_false_iff_not]; omega
        have q9 : decide ((2 : Int) < s.size) = false := by rw [decide_eq_false_iff_not]; omega
        clear h1
        go_enter Tryd.func81, Tryd.ntmps81
        go_wp2
        go_quiet (fail)
        go_wp2
        first
        | (go_ret; exact ⟨ret_b (by rw [H.out]; rfl), by repeat (with_reducible first | refine bel_drewN ?_ _ | refine bel_alloc ?_ _ | exact Below.refl _ _)⟩)
        | (go_quiet (fail); go_wp2; go_ret; exact ⟨ret_b (by rw [H.out]; rfl), by repeat (with_reducible first | refine bel_drewN ?_ _ | refine bel_alloc ?_ _ | exact Below.refl _ _)⟩)
      · first
        | (exfalso; rw [HL.out] at h3; simp at h3; done)
        | (have g1 : 1 < s.size := by omega
           have H := Lib.hid (begun_two Hl.out h1 g1 h3)
           have hn : (s.size : Int) ≤ 2 := by omega
           have hn1 : (1 : Int) < s.size := by omega
           have q0 : decide ((1 : Int) < s.size) = true := by rw [decide_eq_true_eq]; omega
           have q9 : decide ((2 : Int) < s.size) = false := by rw [decide_eq_false_iff_not]; omega
           have l1 := s[1].toNat_lt
           by_cases hs : sec s[0] s[1] = true
           · have hs' := (sec_iff s[0] s[1]).mp hs
             have q1 : decide ((s[1].toNat : Int) < ((lead s[0].toNat).2.1 : Nat)) = false := by rw [decide_eq_false_iff_not]; omega
             have q2 : decide (((lead s[0].toNat).2.2 : Nat) < (s[1].toNat : Int)) = false := by rw [decide_eq_false_iff_not]; omega
             rw [HL.out] at q1 q2
             simp only [Int.cast_ofNat_Int] at q1 q2
             have HS := Lib.hid hs
             clear h1 hs hs'
             go_enter Tryd.func81, Tryd.ntmps81
             go_wp2
             go_quiet (fail)
             go_wp2
             first
             | (go_ret; exact ⟨ret_b (by rw [H.out, HS.out]; rfl), by repeat (with_reducible first | refine bel_drewN ?_ _ | refine bel_alloc ?_ _ | exact Below.refl _ _)⟩)
             | (go_quiet (fail); go_wp2; go_ret; exact ⟨ret_b (by rw [H.out, HS.out]; rfl), by repeat (with_reducible first | refine bel_drewN ?_ _ | refine bel_alloc ?_ _ | exact Below.refl _ _)⟩)
           · have hs' := (not_congr (sec_iff s[0] s[1])).mp hs
             have HS : Hid (sec s[0] s[1] = false) := Bool.eq_false_iff.mpr hs
             by_cases hs2 : s[1].toNat < (lead s[0].toNat).2.1
             · have q1 : decide ((s[1].toNat : Int) < ((lead s[0].toNat).2.1 : Nat)) = true := by rw [decide_eq_true_eq]; omega
               rw [HL.out] at q1
               simp only [Int.cast_ofNat_Int] at q1
               clear h1 hs hs' hs2
               go_enter Tryd.func81, Tryd.ntmps81
               go_wp2
               go_quiet (fail)
               go_wp2
               first
               | (go_ret; exact ⟨ret_b (by rw [H.out, HS.out]; rfl), by repeat (with_reducible first | refine bel_drewN ?_ _ | refine bel_alloc ?_ _ | exact Below.refl _ _)⟩)
               | (go_quiet (fail); go_wp2; go_ret; exact ⟨ret_b (by rw [H.out, HS.out]; rfl), by repeat (with_reducible first | refine bel_drewN ?_ _ | refine bel_alloc ?_ _ | exact Below.refl _ _)⟩)
             · have q1 : decide ((s[1].toNat : Int) < ((lead s[0].toNat).2.1 : Nat)) = false := by rw [decide_eq_false_iff_not]; omega
               have q2 : decide (((lead s[0].toNat).2.2 : Nat) < (s[1].toNat : Int)) = true := by rw [decide_eq_true_eq]; omega
               rw [HL.out] at q1 q2
               simp only [Int.cast_ofNat_Int] at q1 q2
               clear h1 hs hs' hs2
               go_enter Tryd.func81, Tryd.ntmps81
               go_wp2
               go_quiet (fail)
               go_wp2
               first
               | (go_ret; exact ⟨ret_b (by rw [H.out, HS.out]; rfl), by repeat (with_reducible first | refine bel_drewN ?_ _ | refine bel_alloc ?_ _ | exact Below.refl _ _)⟩)
               | (go_quiet (fail); go_wp2; go_ret; exact ⟨ret_b (by rw [H.out, HS.out]; rfl), by repeat (with_reducible first | refine bel_drewN ?_ _ | refine bel_alloc ?_ _ | exact Below.refl _ _)⟩))
      · first
        | (exfalso; rw [HL.out] at h3; simp at h3; done)
        | (have g1 : 1 < s.size := by omega
           have g2 : 2 < s.size := by omega
           have H := Lib.hid (begun_thr Hl.out h1 g1 g2 h3)
           have hn : (s.size : Int) ≤ 3 := by omega
           have hn1 : (1 : Int) < s.size := by omega
           have hn2 : (2 : Int) < s.size := by omega
           have q0 : decide ((1 : Int) < s.size) = true := by rw [decide_eq_true_eq]; omega
           have q9 : decide ((2 : Int) < s.size) = true := by rw [decide_eq_true_eq]; omega
           have l1 := s[1].toNat_lt
           have l2 := s[2].toNat_lt
           by_cases hs : sec s[0] s[1] = true
           · have hs' := (sec_iff s[0] s[1]).mp hs
             have q1 : decide ((s[1].toNat : Int) < ((lead s[0].toNat).2.1 : Nat)) = false := by rw [decide_eq_false_iff_not]; omega
             have q2 : decide (((lead s[0].toNat).2.2 : Nat) < (s[1].toNat : Int)) = false := by rw [decide_eq_false_iff_not]; omega
             rw [HL.out] at q1 q2
             simp only [Int.cast_ofNat_Int] at q1 q2
             have HS := Lib.hid hs
             by_cases hc : cont s[2] = true
             · have hc' := (cont_iff s[2]).mp hc
               have q3 : decide ((s[2].toNat : Int) < 128) = false := by rw [decide_eq_false_iff_not]; omega
               have q4 : decide ((191 : Int) < s[2].toNat) = false := by rw [decide_eq_false_iff_not]; omega
               have HC := Lib.hid hc
               clear h1 hs hs' hc hc'
               go_enter Tryd.func81, Tryd.ntmps81
               go_wp2
               go_quiet (fail)
               go_wp2
               first
               | (go_ret; exact ⟨ret_b (by rw [H.out, HS.out, HC.out]; rfl), by repeat (with_reducible first | refine bel_drewN ?_ _ | refine bel_alloc ?_ _ | exact Below.refl _ _)⟩)
               | (go_quiet (fail); go_wp2; go_ret; exact ⟨ret_b (by rw [H.out, HS.out, HC.out]; rfl), by repeat (with_reducible first | refine bel_drewN ?_ _ | refine bel_alloc ?_ _ | exact Below.refl _ _)⟩)
             · have hc' := (not_congr (cont_iff s[2])).mp hc
               have HC : Hid (cont s[2] = false) := Bool.eq_false_iff.mpr hc
               by_cases hc2 : s[2].toNat < 128
               · have q3 : decide ((s[2].toNat : Int) < 128) = true := by rw [decide_eq_true_eq]; omega
                 clear h1 hs hs' hc hc' hc2
                 go_enter Tryd.func81, Tryd.ntmps81
                 go_wp2
                 go_quiet (fail)
                 go_wp2
                 first
                 | (go_ret; exact ⟨ret_b (by rw [H.out, HS.out, HC.out]; rfl), by repeat (with_reducible first | refine bel_drewN ?_ _ | refine bel_alloc ?_ _ | exact Below.refl _ _)⟩)
                 | (go_quiet (fail); go_wp2; go_ret; exact ⟨ret_b (by rw [H.out, HS.out, HC.out]; rfl), by repeat (with_reducible first | refine bel_drewN ?_ _ | refine bel_alloc ?_ _ | exact Below.refl _ _)⟩)
               · have q3 : decide ((s[2].toNat : Int) < 128) = false := by rw [decide_eq_false_iff_not]; omega
                 have q4 : decide ((191 : Int) < s[2].toNat) = true := by rw [decide_eq_true_eq]; omega
                 clear h1 hs hs' hc hc' hc2
                 go_enter Tryd.func81, Tryd.ntmps81
                 go_wp2
                 go_quiet (fail)
                 go_wp2
                 first
                 | (go_ret; exact ⟨ret_b (by rw [H.out, HS.out, HC.out]; rfl), by repeat (with_reducible first | refine bel_drewN ?_ _ | refine bel_alloc ?_ _ | exact Below.refl _ _)⟩)
                 | (go_quiet (fail); go_wp2; go_ret; exact ⟨ret_b (by rw [H.out, HS.out, HC.out]; rfl), by repeat (with_reducible first | refine bel_drewN ?_ _ | refine bel_alloc ?_ _ | exact Below.refl _ _)⟩)
           · have hs' := (not_congr (sec_iff s[0] s[1])).mp hs
             have HS : Hid (sec s[0] s[1] = false) := Bool.eq_false_iff.mpr hs
             by_cases hs2 : s[1].toNat < (lead s[0].toNat).2.1
             · have q1 : decide ((s[1].toNat : Int) < ((lead s[0].toNat).2.1 : Nat)) = true := by rw [decide_eq_true_eq]; omega
               rw [HL.out] at q1
               simp only [Int.cast_ofNat_Int] at q1
               clear h1 hs hs' hs2
               go_enter Tryd.func81, Tryd.ntmps81
               go_wp2
               go_quiet (fail)
               go_wp2
               first
               | (go_ret; exact ⟨ret_b (by rw [H.out, HS.out]; rfl), by repeat (with_reducible first | refine bel_drewN ?_ _ | refine bel_alloc ?_ _ | exact Below.refl _ _)⟩)
               | (go_quiet (fail); go_wp2; go_ret; exact ⟨ret_b (by rw [H.out, HS.out]; rfl), by repeat (with_reducible first | refine bel_drewN ?_ _ | refine bel_alloc ?_ _ | exact Below.refl _ _)⟩)
             · have q1 : decide ((s[1].toNat : Int) < ((lead s[0].toNat).2.1 : Nat)) = false := by rw [decide_eq_false_iff_not]; omega
               have q2 : decide (((lead s[0].toNat).2.2 : Nat) < (s[1].toNat : Int)) = true := by rw [decide_eq_true_eq]; omega
               rw [HL.out] at q1 q2
               simp only [Int.cast_ofNat_Int] at q1 q2
               clear h1 hs hs' hs2
               go_enter Tryd.func81, Tryd.ntmps81
               go_wp2
               go_quiet (fail)
               go_wp2
               first
               | (go_ret; exact ⟨ret_b (by rw [H.out, HS.out]; rfl), by repeat (with_reducible first | refine bel_drewN ?_ _ | refine bel_alloc ?_ _ | exact Below.refl _ _)⟩)
               | (go_quiet (fail); go_wp2; go_ret; exact ⟨ret_b (by rw [H.out, HS.out]; rfl), by repeat (with_reducible first | refine bel_drewN ?_ _ | refine bel_alloc ?_ _ | exact Below.refl _ _)⟩))
  · have hL := full_none hX
    have H : Hid (begun s.data.toList = false) := by
      show _ = _
      rw [hl]; exact begun_zero _ hL
    rcases Lib.firstT_cases s[0].toNat with g | g | g | g | g | g | g | g | g
    all_goals try (rw [g] at hX; exact absurd (by decide) hX)
    all_goals
      rw [g] at hc0
      clear g hL hX hl hs0 hT
      go_enter Tryd.func81, Tryd.ntmps81
      go_wp2
      go_ret
      exact ⟨ret_b (by rw [H.out]; rfl), Below.refl _ _⟩
end Go.Proofs.YtjjilhfebkeoeaaDoor.Ky
