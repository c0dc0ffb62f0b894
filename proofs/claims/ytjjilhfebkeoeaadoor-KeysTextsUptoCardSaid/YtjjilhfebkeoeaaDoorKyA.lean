/- The tables; a text's first unit, At 0, Begun: walked. -/
import Derived.Test.YtjjilhfebkeoeaaDoorKyP
import Derived.Test.YtjjilhfebkeoeaaDoorShelf
import Derived.Test.YtjjilhfebkeoeaaDoorWk
import Derived.Lib.LaidTab
import Derived.LoopTactic
import Derived.Deep.LoopGhost
import Derived.Outline
import Derived.Lib.Hide
import Derived.BigQuiet
import Derived.BigRegion
import Derived.RegionTactic
import Derived.ChangeAlike
import Derived.StillTailTactics
namespace Go.Proofs.YtjjilhfebkeoeaaDoor.Ky
open Go Go.RowKit
open Go.Proofs.YtjjilhfebkeoeaaDoor.Wk (bcell bel_drew bel_drewN bel_alloc bel_set bel_call size_len mk_data beq_true_i bne_true_i bne_false_i beq_false_i drop_cons var_below)
set_option linter.unusedVariables false
set_option linter.unusedSimpArgs false

/-- What the walks read of the library's variables. -/
structure Tb (w : World) : Prop where
  u : Lib.Utf8Tabs 0 1 w
  m : ∃ m, w.cell? ⟨3, 0, none⟩ = some (.int .i64 m)
  p : Lib.TabIs Tryd.prog w "internal/strconv.uint64pow10" .u64 Lib.pow10Tab
theorem Tb.below {w W : World} (h : Tb w) (hb : Below w.heap.size w W) : Tb W := by
  have hc : ∀ (a : Addr) v, w.cell? a = some v → W.cell? a = some v := fun a v ha => (hb.cell (World.block_lt_of_cell? _ _ ha)).trans ha
  refine ⟨⟨fun c hc' => hc _ _ (h.u.1 c hc'), fun i hi => ⟨hc _ _ (h.u.2 i hi).1, hc _ _ (h.u.2 i hi).2⟩⟩, ?_, var_below (P := Tryd.prog) h.p hb⟩
  obtain ⟨m, hm⟩ := h.m
  exact ⟨m, hc _ _ hm⟩
theorem Tb.bel {w0 w : World} (h : Tb w0) (hb : Below w0.heap.size w0 w) : Tb w := h.below hb

def unV (l : List UInt8) : Value := .agg #[.int .i32 (fst l).1, .int .i64 (fst l).2]
theorem run_size (c n : Int) (w : World) : (Instr.field 27 (.agg #[.int .i32 c, .int .i64 n]) 1).run Tryd.prog w = .ok (.int .i64 n) w := by kernel_rfl
theorem run_char (c n : Int) (w : World) : (Instr.field 27 (.agg #[.int .i32 c, .int .i64 n]) 0).run Tryd.prog w = .ok (.int .i32 c) w := by kernel_rfl
theorem decode_calls (s : ByteArray) (h0 : 0 < s.size) (w : World) (hT : Tb w) (a b : Nat) (hd : dec s.data.toList = (a, b)) :
    Calls Tryd.prog 42 #[.string s] w fun e w' => e = .returned (.tuple #[.int .i32 a, .int .i64 b]) ∧ Below w.heap.size w w' :=
  (Tryd.utf8_DecodeRuneInString s w hT.u).mono (by
    rintro e w' ⟨rfl, hb⟩
    rw [dec_go s h0, hd]
    exact ⟨rfl, hb⟩)
theorem ret_un {l : List UInt8} {a b : Int} (h1 : (fst l).1 = a) (h2 : ((fst l).2 : Int) = b) : Ending.returned (.agg #[.int .i32 a, .int .i64 b]) = .returned (unV l) := by unfold unV; rw [h1, h2]
set_option maxRecDepth 100000 in
theorem first_calls (s : ByteArray) (h0 : 0 < s.size) (w : World) (hT : Tb w) :
    Calls Tryd.prog 31 #[.string s] w fun e w' => e = .returned (unV s.data.toList) ∧ Below w.heap.size w w' := by
  obtain ⟨a, r, hl⟩ : ∃ a r, s.data.toList = a :: r := List.exists_cons_of_ne_nil (fun e => by have := size_len s; rw [e] at this; simp at this; omega)
  have hB := fst_bound s.data.toList
  rcases dec_fst a r with ⟨h1, h2⟩ | ⟨h1, h2, h3⟩
  · rw [← hl] at h1 h2
    have hf : Hid (fst s.data.toList = (-1, 1)) := by
      show _ = _
      rw [hl] at h1 ⊢
      exact (fst_neg h1).1
    have HD := fun W hT => decode_calls s h0 W hT _ _ h2
    replace HD := Lib.hid HD
    have HT := Lib.hid hT
    clear hl h1 h2 hB hT
    go_enter Tryd.func31, Tryd.ntmps31
    go_wp2_with (go_at_call 42; refine (HD.out _ (HT.out.below ((Below.refl _ _).alloc (Nat.le_refl _) _))).mono ?_; rintro e wz ⟨rfl, hb⟩; obtain ⟨hc, hf'⟩ := bcell hb; have hz := hb.size)
    refine bodyPost_ret (v := .agg #[.int .i32 (-1), .int .i64 1]) (by simp [results, Tryd.results31, go_sem, hc]) rfl ⟨ret_un (by rw [hf.out]) (by rw [hf.out]; rfl), ?_⟩
    repeat (with_reducible first | refine bel_call ?_ hb | refine bel_alloc ?_ _ | refine bel_set ?_ (Nat.le_refl _) _ | exact Below.refl _ _)
  · rw [← hl] at h1 h2 h3
    have HD := fun W hT => decode_calls s h0 W hT _ _ h2
    replace HD := Lib.hid HD
    have HT := Lib.hid hT
    obtain ⟨c, hc0⟩ : ∃ c : Nat, c = (fst s.data.toList).1.toNat := ⟨_, rfl⟩
    obtain ⟨n, hn0⟩ : ∃ n, n = (fst s.data.toList).2 := ⟨_, rfl⟩
    rw [← hc0, ← hn0] at HD
    have hC : Hid ((fst s.data.toList).1 = (c : Int)) := (by omega : (fst s.data.toList).1 = (c : Int))
    have hN : Hid (((fst s.data.toList).2 : Int) = (n : Int)) := by show _ = _; rw [← hn0]
    have hn : (n : Int) ≤ 4 := by omega
    have hcb : (c : Int) ≤ 1114111 := by omega
    by_cases g : (c : Int) = 65533
    · have q1 := beq_true_i g
      have q2 : ((n : Int) == 1) = false := beq_false_i (by have := h3 (by omega); omega)
      clear hl h1 h2 h3 hB hT hc0 hn0 g
      go_enter Tryd.func31, Tryd.ntmps31
      go_wp2_with (go_at_call 42; refine (HD.out _ (HT.out.below ((Below.refl _ _).alloc (Nat.le_refl _) _))).mono ?_; rintro e wz ⟨rfl, hb⟩; obtain ⟨hc, hf'⟩ := bcell hb; have hz := hb.size)
      refine bodyPost_ret (v := .agg #[.int .i32 c, .int .i64 n]) (by simp [results, Tryd.results31, go_sem, hc]) rfl ⟨ret_un hC.out hN.out, ?_⟩
      repeat (with_reducible first | refine bel_call ?_ hb | refine bel_alloc ?_ _ | refine bel_set ?_ (Nat.le_refl _) _ | exact Below.refl _ _)
    · have q1 := beq_false_i g
      clear hl h1 h2 h3 hB hT hc0 hn0 g
      go_enter Tryd.func31, Tryd.ntmps31
      go_wp2_with (go_at_call 42; refine (HD.out _ (HT.out.below ((Below.refl _ _).alloc (Nat.le_refl _) _))).mono ?_; rintro e wz ⟨rfl, hb⟩; obtain ⟨hc, hf'⟩ := bcell hb; have hz := hb.size)
      refine bodyPost_ret (v := .agg #[.int .i32 c, .int .i64 n]) (by simp [results, Tryd.results31, go_sem, hc]) rfl ⟨ret_un hC.out hN.out, ?_⟩
      repeat (with_reducible first | refine bel_call ?_ hb | refine bel_alloc ?_ _ | refine bel_set ?_ (Nat.le_refl _) _ | exact Below.refl _ _)

theorem ret_b {a b : Bool} (h : a = b) : Ending.returned (.bool a) = .returned (.bool b) := by rw [h]
end Go.Proofs.YtjjilhfebkeoeaaDoor.Ky
/- utf8.FullRuneInString: walked. -/
namespace Go.Proofs.YtjjilhfebkeoeaaDoor.Ky
open Go Go.RowKit
open Go.Proofs.YtjjilhfebkeoeaaDoor.Wk (bcell bel_drew bel_drewN bel_alloc bel_set bel_call size_len mk_data beq_true_i bne_true_i bne_false_i beq_false_i drop_cons var_below)
set_option linter.unusedVariables false
set_option linter.unusedSimpArgs false

theorem full_lead {n : Nat} {X : Nat} (h : Lib.firstT n = X) (hX : X < 240) : lead n = (X % 8, Lib.accLo (X / 16), Lib.accHi (X / 16)) := by rw [lead_T, if_pos (by omega), h]
theorem full_none {n : Nat} (h : ¬ Lib.firstT n < 240) : (lead n).1 = 0 := by rw [lead_T, if_neg h]
theorem begun_one {s : ByteArray} {a : UInt8} {r : List UInt8} (hl : s.data.toList = a :: r) (hs : s.size = 1) (h : 2 ≤ (lead a.toNat).1) : begun s.data.toList = true := by
  have := size_len s
  rw [hl] at this ⊢
  cases r with
  | nil => simp [begun, h]
  | cons b r => simp at this; omega
theorem begun_two {s : ByteArray} {a : UInt8} {r : List UInt8} (hl : s.data.toList = a :: r) (hs : s.size = 2) (g1 : 1 < s.size) (h : 3 ≤ (lead a.toNat).1) : begun s.data.toList = sec a s[1] := by
  have := size_len s
  have h1 := drop_cons s 1 (by omega)
  rw [hl] at this h1 ⊢
  match r, this, h1 with
  | [], this, _ => simp at this; omega
  | [b], _, h1 => simp only [List.drop_succ_cons, List.drop_zero, List.cons.injEq] at h1; simp [begun, h, h1.1]
  | b :: c :: r, this, _ => simp at this; omega
theorem begun_thr {s : ByteArray} {a : UInt8} {r : List UInt8} (hl : s.data.toList = a :: r) (hs : s.size = 3) (g1 : 1 < s.size) (g2 : 2 < s.size) (h : 4 ≤ (lead a.toNat).1) : begun s.data.toList = (sec a s[1] && cont s[2]) := by
  have := size_len s
  have h1 := drop_cons s 1 (by omega)
  have h2 := drop_cons s 2 (by omega)
  rw [hl] at this h1 h2 ⊢
  match r, this, h1, h2 with
  | [], this, _, _ => simp at this; omega
  | [b], this, _, _ => simp at this; omega
  | [b, c], _, h1, h2 =>
    simp only [List.drop_succ_cons, List.drop_zero, List.cons.injEq] at h1 h2
    simp [begun, h, h1.1, h2.1]
  | b :: c :: d :: r, this, _, _ => simp at this; omega
theorem begun_long {s : ByteArray} {a : UInt8} {r : List UInt8} (hl : s.data.toList = a :: r) (h : (lead a.toNat).1 ≤ s.size) : begun s.data.toList = false := by
  have := size_len s
  have h4 := lead_cases a.toNat
  rw [hl] at this ⊢
  match r, this with
  | [], this => simp [begun]; simp at this; omega
  | [b], this => simp [begun]; simp at this; omega
  | [b, c], this => simp [begun]; simp at this; omega
  | b :: c :: d :: r, _ => rfl
set_option maxHeartbeats 4000000 in
set_option maxRecDepth 1000000 in
theorem full_calls (s : ByteArray) (h0 : 0 < s.size) (w : World) (hT : Tb w) :
    Calls Tryd.prog 81 #[.string s] w fun e w' => e = .returned (.bool (!begun s.data.toList)) ∧ Below w.heap.size w w' := by
  obtain ⟨a, r, hl⟩ : ∃ a r, s.data.toList = a :: r := List.exists_cons_of_ne_nil (fun e => by have := size_len s; rw [e] at this; simp at this; omega)
  have hs0 : s[0] = a := by
    have := drop_cons s 0 h0
    rw [hl] at this
    simp only [List.drop_zero, List.cons.injEq] at this
    exact this.1.symm
  have hz0 : (0 : Int) < (s.size : Int) := by omega
  have l0 := a.toNat_lt
  have hc0 := hT.u.1 a.toNat l0
  rw [← hs0] at hc0 hl l0
  by_cases hX : Lib.firstT s[0].toNat < 240
  · have hL := full_lead rfl hX
    rcases Lib.firstT_cases s[0].toNat with g | g | g | g | g | g | g | g | g
    · rw [g] at hX; exact absurd hX (by decide)
    · rw [g] at hX; exact absurd hX (by decide)
    all_goals
      clear hX hs0
      rw [g] at hc0 hL
      have ha := hT.u.2
      have ha0 := ha 0 (by decide)
      have ha1 := ha 1 (by decide)
      have ha2 := ha 2 (by decide)
      have ha3 := ha 3 (by decide)
      have ha4 := ha 4 (by decide)
      simp only [Lib.accLo, Lib.accHi, Nat.reduceMul, Nat.reduceAdd, Nat.reduceEqDiff, if_true, if_false, Nat.reduceMod, Nat.reduceDiv] at ha0 ha1 ha2 ha3 ha4 hL
      obtain ⟨ha00, ha01⟩ := ha0
      obtain ⟨ha10, ha11⟩ := ha1
      obtain ⟨ha20, ha21⟩ := ha2
      obtain ⟨ha30, ha31⟩ := ha3
      obtain ⟨ha40, ha41⟩ := ha4
      have HL := Lib.hid hL
      have Hl := Lib.hid hl
      clear ha hT hL hl g
      have h1 : (lead s[0].toNat).1 ≤ s.size ∨ s.size = 1 ∨ (s.size = 2 ∧ 3 ≤ (lead s[0].toNat).1) ∨ (s.size = 3 ∧ 4 ≤ (lead s[0].toNat).1) := by
        have := lead_cases s[0].toNat
        omega
      rcases h1 with h1 | h1 | ⟨h1, h3⟩ | ⟨h1, h3⟩
      · have H : Hid (begun s.data.toList = false) := begun_long Hl.out h1
        have hn : ((lead s[0].toNat).1 : Int) ≤ s.size := by omega
        rw [HL.out] at hn
        simp only [Int.cast_ofNat_Int] at hn
        clear h1
        go_enter Tryd.func81, Tryd.ntmps81
        go_wp2
        go_ret
        exact ⟨ret_b (by rw [H.out]; rfl), Below.refl _ _⟩
      · have H : Hid (begun s.data.toList = true) := begun_one Hl.out h1 (by rw [HL.out]; decide)
        have hn : (s.size : Int) ≤ 1 := by omega
        have q0 : decide ((1 : Int) < s.size) = false := by rw [decide_eq_false_iff_not]; omega
        have q9 : decide ((2 : Int) < s.size) = false := by rw [decide_eq_false_iff_not]; omega
        clear h1
        go_enter Tryd.func81, Tryd.ntmps81
        go_wp2
        go_quiet (fail)
        go_wp2
        first
        | (go_ret; exact ⟨ret_b (by rw [H.out]; rfl), by repeat (with_reducible first | refine bel_drewN ?_ _ | refine bel_alloc ?_ _ | exact Below.refl _ _)⟩)
        | (go_quiet (fail); go_wp2; go_ret; exact ⟨ret_b (by rw [H.out]; rfl), by repeat (with_reducible first | refine bel_drewN ?_ _ | refine bel_alloc ?_ _ | exact Below.refl _ _)⟩)
      · first
        | (exfalso; rw [HL.out] at h3; simp at h3; done)
        | (have g1 : 1 < s.size := by omega
           have H := Lib.hid (begun_two Hl.out h1 g1 h3)
           have hn : (s.size : Int) ≤ 2 := by omega
           have hn1 : (1 : Int) < s.size := by omega
           have q0 : decide ((1 : Int) < s.size) = true := by rw [decide_eq_true_eq]; omega
           have q9 : decide ((2 : Int) < s.size) = false := by rw [decide_eq_false_iff_not]; omega
           have l1 := s[1].toNat_lt
           by_cases hs : sec s[0] s[1] = true
           · have hs' := (sec_iff s[0] s[1]).mp hs
             have q1 : decide ((s[1].toNat : Int) < ((lead s[0].toNat).2.1 : Nat)) = false := by rw [decide_eq_false_iff_not]; omega
             have q2 : decide (((lead s[0].toNat).2.2 : Nat) < (s[1].toNat : Int)) = false := by rw [decide_eq_false_iff_not]; omega
             rw [HL.out] at q1 q2
             simp only [Int.cast_ofNat_Int] at q1 q2
             have HS := Lib.hid hs
             clear h1 hs hs'
             go_enter Tryd.func81, Tryd.ntmps81
             go_wp2
             go_quiet (fail)
             go_wp2
             first
             | (go_ret; exact ⟨ret_b (by rw [H.out, HS.out]; rfl), by repeat (with_reducible first | refine bel_drewN ?_ _ | refine bel_alloc ?_ _ | exact Below.refl _ _)⟩)
             | (go_quiet (fail); go_wp2; go_ret; exact ⟨ret_b (by rw [H.out, HS.out]; rfl), by repeat (with_reducible first | refine bel_drewN ?_ _ | refine bel_alloc ?_ _ | exact Below.refl _ _)⟩)
           · have hs' := (not_congr (sec_iff s[0] s[1])).mp hs
             have HS : Hid (sec s[0] s[1] = false) := Bool.eq_false_iff.mpr hs
             by_cases hs2 : s[1].toNat < (lead s[0].toNat).2.1
             · have q1 : decide ((s[1].toNat : Int) < ((lead s[0].toNat).2.1 : Nat)) = true := by rw [decide_eq_true_eq]; omega
               rw [HL.out] at q1
               simp only [Int.cast_ofNat_Int] at q1
               clear h1 hs hs' hs2
               go_enter Tryd.func81, Tryd.ntmps81
               go_wp2
               go_quiet (fail)
               go_wp2
               first
               | (go_ret; exact ⟨ret_b (by rw [H.out, HS.out]; rfl), by repeat (with_reducible first | refine bel_drewN ?_ _ | refine bel_alloc ?_ _ | exact Below.refl _ _)⟩)
               | (go_quiet (fail); go_wp2; go_ret; exact ⟨ret_b (by rw [H.out, HS.out]; rfl), by repeat (with_reducible first | refine bel_drewN ?_ _ | refine bel_alloc ?_ _ | exact Below.refl _ _)⟩)
             · have q1 : decide ((s[1].toNat : Int) < ((lead s[0].toNat).2.1 : Nat)) = false := by rw [decide_eq_false_iff_not]; omega
               have q2 : decide (((lead s[0].toNat).2.2 : Nat) < (s[1].toNat : Int)) = true := by rw [decide_eq_true_eq]; omega
               rw [HL.out] at q1 q2
               simp only [Int.cast_ofNat_Int] at q1 q2
               clear h1 hs hs' hs2
               go_enter Tryd.func81, Tryd.ntmps81
               go_wp2
               go_quiet (fail)
               go_wp2
               first
               | (go_ret; exact ⟨ret_b (by rw [H.out, HS.out]; rfl), by repeat (with_reducible first | refine bel_drewN ?_ _ | refine bel_alloc ?_ _ | exact Below.refl _ _)⟩)
               | (go_quiet (fail); go_wp2; go_ret; exact ⟨ret_b (by rw [H.out, HS.out]; rfl), by repeat (with_reducible first | refine bel_drewN ?_ _ | refine bel_alloc ?_ _ | exact Below.refl _ _)⟩))
      · first
        | (exfalso; rw [HL.out] at h3; simp at h3; done)
        | (have g1 : 1 < s.size := by omega
           have g2 : 2 < s.size := by omega
           have H := Lib.hid (begun_thr Hl.out h1 g1 g2 h3)
           have hn : (s.size : Int) ≤ 3 := by omega
           have hn1 : (1 : Int) < s.size := by omega
           have hn2 : (2 : Int) < s.size := by omega
           have q0 : decide ((1 : Int) < s.size) = true := by rw [decide_eq_true_eq]; omega
           have q9 : decide ((2 : Int) < s.size) = true := by rw [decide_eq_true_eq]; omega
           have l1 := s[1].toNat_lt
           have l2 := s[2].toNat_lt
           by_cases hs : sec s[0] s[1] = true
           · have hs' := (sec_iff s[0] s[1]).mp hs
             have q1 : decide ((s[1].toNat : Int) < ((lead s[0].toNat).2.1 : Nat)) = false := by rw [decide_eq_false_iff_not]; omega
             have q2 : decide (((lead s[0].toNat).2.2 : Nat) < (s[1].toNat : Int)) = false := by rw [decide_eq_false_iff_not]; omega
             rw [HL.out] at q1 q2
             simp only [Int.cast_ofNat_Int] at q1 q2
             have HS := Lib.hid hs
             by_cases hc : cont s[2] = true
             · have hc' := (cont_iff s[2]).mp hc
               have q3 : decide ((s[2].toNat : Int) < 128) = false := by rw [decide_eq_false_iff_not]; omega
               have q4 : decide ((191 : Int) < s[2].toNat) = false := by rw [decide_eq_false_iff_not]; omega
               have HC := Lib.hid hc
               clear h1 hs hs' hc hc'
               go_enter Tryd.func81, Tryd.ntmps81
               go_wp2
               go_quiet (fail)
               go_wp2
               first
               | (go_ret; exact ⟨ret_b (by rw [H.out, HS.out, HC.out]; rfl), by repeat (with_reducible first | refine bel_drewN ?_ _ | refine bel_alloc ?_ _ | exact Below.refl _ _)⟩)
               | (go_quiet (fail); go_wp2; go_ret; exact ⟨ret_b (by rw [H.out, HS.out, HC.out]; rfl), by repeat (with_reducible first | refine bel_drewN ?_ _ | refine bel_alloc ?_ _ | exact Below.refl _ _)⟩)
             · have hc' := (not_congr (cont_iff s[2])).mp hc
               have HC : Hid (cont s[2] = false) := Bool.eq_false_iff.mpr hc
               by_cases hc2 : s[2].toNat < 128
               · have q3 : decide ((s[2].toNat : Int) < 128) = true := by rw [decide_eq_true_eq]; omega
                 clear h1 hs hs' hc hc' hc2
                 go_enter Tryd.func81, Tryd.ntmps81
                 go_wp2
                 go_quiet (fail)
                 go_wp2
                 first
                 | (go_ret; exact ⟨ret_b (by rw [H.out, HS.out, HC.out]; rfl), by repeat (with_reducible first | refine bel_drewN ?_ _ | refine bel_alloc ?_ _ | exact Below.refl _ _)⟩)
                 | (go_quiet (fail); go_wp2; go_ret; exact ⟨ret_b (by rw [H.out, HS.out, HC.out]; rfl), by repeat (with_reducible first | refine bel_drewN ?_ _ | refine bel_alloc ?_ _ | exact Below.refl _ _)⟩)
               · have q3 : decide ((s[2].toNat : Int) < 128) = false := by rw [decide_eq_false_iff_not]; omega
                 have q4 : decide ((191 : Int) < s[2].toNat) = true := by rw [decide_eq_true_eq]; omega
                 clear h1 hs hs' hc hc' hc2
                 go_enter Tryd.func81, Tryd.ntmps81
                 go_wp2
                 go_quiet (fail)
                 go_wp2
                 first
                 | (go_ret; exact ⟨ret_b (by rw [H.out, HS.out, HC.out]; rfl), by repeat (with_reducible first | refine bel_drewN ?_ _ | refine bel_alloc ?_ _ | exact Below.refl _ _)⟩)
                 | (go_quiet (fail); go_wp2; go_ret; exact ⟨ret_b (by rw [H.out, HS.out, HC.out]; rfl), by repeat (with_reducible first | refine bel_drewN ?_ _ | refine bel_alloc ?_ _ | exact Below.refl _ _)⟩)
           · have hs' := (not_congr (sec_iff s[0] s[1])).mp hs
             have HS : Hid (sec s[0] s[1] = false) := Bool.eq_false_iff.mpr hs
             by_cases hs2 : s[1].toNat < (lead s[0].toNat).2.1
             · have q1 : decide ((s[1].toNat : Int) < ((lead s[0].toNat).2.1 : Nat)) = true := by rw [decide_eq_true_eq]; omega
               rw [HL.out] at q1
               simp only [Int.cast_ofNat_Int] at q1
               clear h1 hs hs' hs2
               go_enter Tryd.func81, Tryd.ntmps81
               go_wp2
               go_quiet (fail)
               go_wp2
               first
               | (go_ret; exact ⟨ret_b (by rw [H.out, HS.out]; rfl), by repeat (with_reducible first | refine bel_drewN ?_ _ | refine bel_alloc ?_ _ | exact Below.refl _ _)⟩)
               | (go_quiet (fail); go_wp2; go_ret; exact ⟨ret_b (by rw [H.out, HS.out]; rfl), by repeat (with_reducible first | refine bel_drewN ?_ _ | refine bel_alloc ?_ _ | exact Below.refl _ _)⟩)
             · have q1 : decide ((s[1].toNat : Int) < ((lead s[0].toNat).2.1 : Nat)) = false := by rw [decide_eq_false_iff_not]; omega
               have q2 : decide (((lead s[0].toNat).2.2 : Nat) < (s[1].toNat : Int)) = true := by rw [decide_eq_true_eq]; omega
               rw [HL.out] at q1 q2
               simp only [Int.cast_ofNat_Int] at q1 q2
               clear h1 hs hs' hs2
               go_enter Tryd.func81, Tryd.ntmps81
               go_wp2
               go_quiet (fail)
               go_wp2
               first
               | (go_ret; exact ⟨ret_b (by rw [H.out, HS.out]; rfl), by repeat (with_reducible first | refine bel_drewN ?_ _ | refine bel_alloc ?_ _ | exact Below.refl _ _)⟩)
               | (go_quiet (fail); go_wp2; go_ret; exact ⟨ret_b (by rw [H.out, HS.out]; rfl), by repeat (with_reducible first | refine bel_drewN ?_ _ | refine bel_alloc ?_ _ | exact Below.refl _ _)⟩))
  · have hL := full_none hX
    have H : Hid (begun s.data.toList = false) := by
      show _ = _
      rw [hl]; exact begun_zero _ hL
    rcases Lib.firstT_cases s[0].toNat with g | g | g | g | g | g | g | g | g
    all_goals try (rw [g] at hX; exact absurd (by decide) hX)
    all_goals
      rw [g] at hc0
      clear g hL hX hl hs0 hT
      go_enter Tryd.func81, Tryd.ntmps81
      go_wp2
      go_ret
      exact ⟨ret_b (by rw [H.out]; rfl), Below.refl _ _⟩
end Go.Proofs.YtjjilhfebkeoeaaDoor.Ky
/- At 0, Begun: walked. -/
namespace Go.Proofs.YtjjilhfebkeoeaaDoor.Ky
open Go Go.RowKit
open Go.Proofs.YtjjilhfebkeoeaaDoor.Wk (bcell bel_drew bel_drewN bel_alloc bel_set bel_call size_len mk_data beq_true_i bne_true_i bne_false_i beq_false_i drop_cons var_below)
set_option linter.unusedVariables false
set_option linter.unusedSimpArgs false

def keyV (k : Key) : Value := .agg #[.int .i64 k.kind, .int .i32 k.char, .bool k.ctrl, .bool k.mt, .bool k.shift, .string ⟨k.text.toArray⟩]
def knV (p : Key × Nat) : Value := .tuple #[keyV p.1, .int .i64 p.2]
theorem ret_k {k k' : Key} (h : k = k') : Ending.returned (.agg #[.int .i64 k'.kind, .int .i32 k'.char, .bool k'.ctrl, .bool k'.mt, .bool k'.shift, .string ⟨k'.text.toArray⟩]) = .returned (keyV k) := by rw [h]; rfl
theorem ret_kn {p : Key × Nat} {k' : Key} {n : Nat} (h : p = (k', n)) : Ending.returned (.tuple #[.agg #[.int .i64 k'.kind, .int .i32 k'.char, .bool k'.ctrl, .bool k'.mt, .bool k'.shift, .string ⟨k'.text.toArray⟩], .int .i64 n]) = .returned (knV p) := by rw [h]; rfl

theorem lt_alloc {w wz : World} {o : Obj} (hb : Below (w.alloc o).heap.size (w.alloc o) wz) : w.heap.size < wz.heap.size := by have := hb.size; simp at this; omega
theorem lt_next {w1 w2 : World} {n : Nat} (h : n < w1.heap.size) (hb : Below w1.heap.size w1 w2) : n < w2.heap.size := by have := hb.size; omega
set_option maxRecDepth 100000 in
theorem around0 (s : ByteArray) (h0 : 0 < s.size) (w : World) (hT : Tb w) :
    Calls Tryd.prog 68 #[.string s, .int .i64 0] w fun e w' => e = .returned (.tuple #[.int .i64 0, .int .i64 (fst s.data.toList).2]) ∧ Below w.heap.size w w' := by
  have m1 : max (0 : Int) (0 - 3) = 0 := by decide
  have m2 : max (0 : Int) (-3) = 0 := by decide
  have hz : (0 : Int) < s.size := by omega
  have q0 : ((0 : Int) == (s.size : Int)) = false := beq_false_i (by omega)
  have hx : s.extract 0 s.size = s := by simp
  have hb := fst_bound s.data.toList
  have hn : ((fst s.data.toList).2 : Int) ≤ 4 := by omega
  have hsz : run_size (fst s.data.toList).1 (fst s.data.toList).2 = run_size (fst s.data.toList).1 (fst s.data.toList).2 := rfl
  have rs := fun w => run_size (fst s.data.toList).1 (fst s.data.toList).2 w
  have HT := Lib.hid hT
  clear hb hT hsz
  go_enter Tryd.func68, Tryd.ntmps68
  go_wp2
  refine wp_loop_rounds 1 ?_; rw [rounds_succ]
  go_wp2_with (go_at_call 31; (try rw [hx]); (with_reducible refine (first_calls s h0 _ HT.out).mono ?_); rintro e wz ⟨rfl, hb⟩; unfold unV)
  go_ret2
  exact ⟨rfl, hb⟩
set_option maxRecDepth 100000 in
theorem bound0 (s : ByteArray) (h0 : 0 < s.size) (w : World) (hT : Tb w) :
    Calls Tryd.prog 69 #[.string s, .int .i64 0] w fun e w' => e = .returned (.bool true) ∧ Below w.heap.size w w' := by
  have hz : (0 : Int) < s.size := by omega
  have q0 : decide ((s.size : Int) < 0) = false := by rw [decide_eq_false_iff_not]; omega
  have HT := Lib.hid hT
  clear hT
  go_enter Tryd.func69, Tryd.ntmps69
  go_wp2_with (go_at_call 68; (with_reducible refine (around0 s h0 _ HT.out).mono ?_); rintro e wz ⟨rfl, hb⟩)
  go_ret
  exact ⟨rfl, hb⟩
set_option maxRecDepth 100000 in
theorem at0 (s : ByteArray) (h0 : 0 < s.size) (w : World) (hT : Tb w) :
    Calls Tryd.prog 70 #[.string s, .int .i64 0] w fun e w' => e = .returned (.tuple #[unV s.data.toList, .bool true]) ∧ Below w.heap.size w w' := by
  have hz : (0 : Int) < s.size := by omega
  have q0 : decide ((s.size : Int) ≤ 0) = false := by rw [decide_eq_false_iff_not]; omega
  have hne : ¬ s = ByteArray.empty := by rintro rfl; simp at h0
  have hx : s.extract 0 s.size = s := by simp
  have HT := Lib.hid hT
  clear hT
  go_enter Tryd.func70, Tryd.ntmps70
  go_wp2_with (first
    | (go_at_call 69; (with_reducible refine (bound0 s h0 _ (HT.out.below ((Below.refl _ _).alloc (Nat.le_refl _) _))).mono ?_); rintro e wz ⟨rfl, hb⟩; obtain ⟨hc, hf⟩ := bcell hb; have hz' := lt_alloc hb)
    | (go_at_call 31; (try rw [hx]); (with_reducible refine (first_calls s h0 _ (HT.out.below (bel_call ((Below.refl _ _).alloc (Nat.le_refl _) _) hb))).mono ?_); rintro e wy ⟨rfl, hb2⟩; obtain ⟨hc2, hf2⟩ := bcell hb2; have hy' := lt_next hz' hb2; unfold unV))
  refine bodyPost_ret (v := .tuple #[.agg #[.int .i32 (fst s.data.toList).1, .int .i64 (fst s.data.toList).2], .bool true]) (by simp [results, Tryd.results70, go_sem, hc, hc2, hz']) rfl ⟨rfl, ?_⟩
  repeat (with_reducible first | refine bel_call ?_ hb2 | refine bel_call ?_ hb | refine bel_alloc ?_ _ | refine bel_set ?_ (Nat.le_refl _) _ | exact Below.refl _ _)
set_option maxRecDepth 100000 in
theorem begun_calls (s : ByteArray) (h0 : 0 < s.size) (w : World) (hT : Tb w) :
    Calls Tryd.prog 73 #[.string s] w fun e w' => e = .returned (.bool (begun s.data.toList)) ∧ Below w.heap.size w w' := by
  have hn : s.toList.isEmpty = false := by
    rw [Lib.toList_data]
    cases h : s.data.toList with
    | nil => have := size_len s; rw [h] at this; simp at this; omega
    | cons a r => rfl
  have hn2 : (!s.toList.isEmpty) = true := by rw [hn]; rfl
  have HT := Lib.hid hT
  clear hT
  go_enter Tryd.func73, Tryd.ntmps73
  go_wp2_with (go_at_call 81; (with_reducible refine (full_calls s h0 _ HT.out).mono ?_); rintro e wz ⟨rfl, hb⟩)
  go_ret
  exact ⟨ret_b (by simp), hb⟩
end Go.Proofs.YtjjilhfebkeoeaaDoor.Ky
/- lettered, numbered, meta, unknown, plain, ss3: walked. -/
namespace Go.Proofs.YtjjilhfebkeoeaaDoor.Ky
open Go Go.RowKit
open Go.Proofs.YtjjilhfebkeoeaaDoor.Wk (bcell bel_drew bel_drewN bel_alloc bel_set bel_call size_len mk_data beq_true_i bne_true_i bne_false_i beq_false_i drop_cons var_below)
set_option linter.unusedVariables false
set_option linter.unusedSimpArgs false

set_option maxHeartbeats 1000000 in
set_option maxRecDepth 100000 in
theorem lettered_calls (b : Nat) (hb : b < 256) (w : World) : Calls Tryd.prog 57 #[.int .u8 b] w fun e w' => e = .returned (keyV (lettered b)) ∧ Below w.heap.size w w' := by
  by_cases hin : b = 65 ∨ b = 66 ∨ b = 67 ∨ b = 68 ∨ b = 72 ∨ b = 70 ∨ b = 80 ∨ b = 81 ∨ b = 82 ∨ b = 83 ∨ b = 90
  · clear hb
    rcases hin with h | h | h | h | h | h | h | h | h | h | h
    all_goals
      subst h
      go_enter Tryd.func57, Tryd.ntmps57
      go_wp2
      refine bodyPost_ret (by simp only [results, Tryd.results57, go_sem, List.getElem?_toArray]; simp [go_sem]; rfl) rfl ⟨?_, ?_⟩
      · rfl
      · repeat (with_reducible first | refine bel_alloc ?_ _ | refine bel_set ?_ (Nat.le_refl _) _ | exact Below.refl _ _)
  · have n1 : ((b : Int) == 65) = false := beq_false_i (by omega)
    have n2 : ((b : Int) == 66) = false := beq_false_i (by omega)
    have n3 : ((b : Int) == 67) = false := beq_false_i (by omega)
    have n4 : ((b : Int) == 68) = false := beq_false_i (by omega)
    have n5 : ((b : Int) == 72) = false := beq_false_i (by omega)
    have n6 : ((b : Int) == 70) = false := beq_false_i (by omega)
    have n7 : ((b : Int) == 80) = false := beq_false_i (by omega)
    have n8 : ((b : Int) == 81) = false := beq_false_i (by omega)
    have n9 : ((b : Int) == 82) = false := beq_false_i (by omega)
    have n10 : ((b : Int) == 83) = false := beq_false_i (by omega)
    have n11 : ((b : Int) == 90) = false := beq_false_i (by omega)
    have H : Hid (lettered b = key0) := by
      show _ = _
      unfold lettered
      rw [if_neg (by omega), if_neg (by omega), if_neg (by omega), if_neg (by omega), if_neg (by omega), if_neg (by omega), if_neg (by omega), if_neg (by omega)]
    clear hin
    go_enter Tryd.func57, Tryd.ntmps57
    go_wp2
    refine bodyPost_ret (v := .agg #[.int .i64 0, .int .i32 0, .bool false, .bool false, .bool false, .string ⟨#[]⟩]) (by simp [results, Tryd.results57, go_sem]) rfl ⟨ret_k (k' := key0) H.out, ?_⟩
    repeat (with_reducible first | refine bel_alloc ?_ _ | refine bel_set ?_ (Nat.le_refl _) _ | exact Below.refl _ _)
set_option maxHeartbeats 1000000 in
set_option maxRecDepth 100000 in
theorem numbered_calls (n : Nat) (w : World) : Calls Tryd.prog 58 #[.int .i64 n] w fun e w' => e = .returned (keyV (numbered n)) ∧ Below w.heap.size w w' := by
  by_cases hin : n ≤ 24
  · have hin : n = 0 ∨ n = 1 ∨ n = 2 ∨ n = 3 ∨ n = 4 ∨ n = 5 ∨ n = 6 ∨ n = 7 ∨ n = 8 ∨ n = 9 ∨ n = 10 ∨ n = 11 ∨ n = 12 ∨ n = 13 ∨ n = 14 ∨ n = 15 ∨ n = 16 ∨ n = 17 ∨ n = 18 ∨ n = 19 ∨ n = 20 ∨ n = 21 ∨ n = 22 ∨ n = 23 ∨ n = 24 := by omega
    rcases hin with h | h | h | h | h | h | h | h | h | h | h | h | h | h | h | h | h | h | h | h | h | h | h | h | h
    all_goals
      subst h
      go_enter Tryd.func58, Tryd.ntmps58
      go_wp2
      refine bodyPost_ret (by simp only [results, Tryd.results58, go_sem, List.getElem?_toArray]; simp [go_sem]; rfl) rfl ⟨?_, ?_⟩
      · rfl
      · repeat (with_reducible first | refine bel_alloc ?_ _ | refine bel_set ?_ (Nat.le_refl _) _ | exact Below.refl _ _)
  · have hn : (25 : Int) ≤ n := by omega
    have n1 : ((n : Int) == 1) = false := beq_false_i (by omega)
    have n2 : ((n : Int) == 2) = false := beq_false_i (by omega)
    have n3 : ((n : Int) == 3) = false := beq_false_i (by omega)
    have n4 : ((n : Int) == 4) = false := beq_false_i (by omega)
    have n5 : ((n : Int) == 5) = false := beq_false_i (by omega)
    have n6 : ((n : Int) == 6) = false := beq_false_i (by omega)
    have n7 : ((n : Int) == 7) = false := beq_false_i (by omega)
    have n8 : ((n : Int) == 8) = false := beq_false_i (by omega)
    have n9 : ((n : Int) == 23) = false := beq_false_i (by omega)
    have n10 : ((n : Int) == 24) = false := beq_false_i (by omega)
    have q1 : decide ((n : Int) ≤ 15) = false := by rw [decide_eq_false_iff_not]; omega
    have q2 : decide ((n : Int) ≤ 21) = false := by rw [decide_eq_false_iff_not]; omega
    have H : Hid (numbered n = key0) := by
      show _ = _
      unfold numbered
      rw [if_neg (by omega), if_neg (by omega), if_neg (by omega), if_neg (by omega), if_neg (by omega), if_neg (by omega), if_neg (by omega), if_neg (by omega), if_neg (by omega)]
    clear hin
    go_enter Tryd.func58, Tryd.ntmps58
    go_wp2
    refine bodyPost_ret (v := .agg #[.int .i64 0, .int .i32 0, .bool false, .bool false, .bool false, .string ⟨#[]⟩]) (by simp [results, Tryd.results58, go_sem]) rfl ⟨ret_k (k' := key0) H.out, ?_⟩
    repeat (with_reducible first | refine bel_alloc ?_ _ | refine bel_set ?_ (Nat.le_refl _) _ | exact Below.refl _ _)
end Go.Proofs.YtjjilhfebkeoeaaDoor.Ky
/- meta, unknown, plain, ss3: walked. -/
namespace Go.Proofs.YtjjilhfebkeoeaaDoor.Ky
open Go Go.RowKit
open Go.Proofs.YtjjilhfebkeoeaaDoor.Wk (bcell bel_drew bel_drewN bel_alloc bel_set bel_call size_len mk_data beq_true_i bne_true_i bne_false_i beq_false_i drop_cons var_below)
set_option linter.unusedVariables false
set_option linter.unusedSimpArgs false

theorem bel6 {w W : World} (h : Below w.heap.size w W) {v0 v1 v2 v3 v4 v5 : Value} {b : Nat} (hb : w.heap.size ≤ b) {i0 i1 i2 i3 i4 i5 : Nat} : Below w.heap.size w ((((((W.setCell ⟨b, i0, none⟩ v0).setCell ⟨b, i1, none⟩ v1).setCell ⟨b, i2, none⟩ v2).setCell ⟨b, i3, none⟩ v3).setCell ⟨b, i4, none⟩ v4).setCell ⟨b, i5, none⟩ v5) :=
  bel_set (bel_set (bel_set (bel_set (bel_set (bel_set h hb _) hb _) hb _) hb _) hb _) hb _
theorem bel_ca {w wz : World} {o : Obj} (hb : Below (w.alloc o).heap.size (w.alloc o) wz) : Below w.heap.size w wz := bel_call (bel_alloc (Below.refl _ _) _) hb
theorem bel_a (w : World) (o : Obj) : Below w.heap.size w (w.alloc o) := bel_alloc (Below.refl _ _) _
theorem clone_calls (s : ByteArray) (w : World) (hs : s.size ≤ 1000000000) : Calls Tryd.prog 49 #[.string s] w fun e w' => e = .returned (.string s) ∧ Below w.heap.size w w' := by
  have HS := Lib.hid (show s.size ≤ 281474976710656 from by omega)
  clear hs
  go_enter Tryd.func49, Tryd.ntmps49
  go_wp2_with (go_at_call 67; (with_reducible refine (Tryd.stringslite_Clone s _ HS.out).mono ?_); rintro e wz ⟨rfl, hb⟩)
  go_ret
  exact ⟨rfl, hb⟩
theorem ret_un' {s : ByteArray} {n : Int} (h : (s.size : Int) = n) : Ending.returned (.tuple #[.agg #[.int .i64 18, .int .i32 0, .bool false, .bool false, .bool false, .string s], .int .i64 n]) = .returned (knV (unknown s.data.toList)) := by
  unfold knV unknown keyV
  rw [size_len, h]
set_option maxRecDepth 100000 in
theorem unknown_calls (s : ByteArray) (w : World) (hs : s.size ≤ 1000000000) : Calls Tryd.prog 74 #[.string s] w fun e w' => e = .returned (knV (unknown s.data.toList)) ∧ Below w.heap.size w w' := by
  have HS := Lib.hid hs
  clear hs
  go_enter Tryd.func74, Tryd.ntmps74
  go_wp2_with (go_at_call 49; (with_reducible refine (clone_calls s _ HS.out).mono ?_); rintro e wz ⟨rfl, hb⟩; obtain ⟨hc, hf⟩ := bcell hb; have hz' := lt_alloc hb)
  refine bodyPost_ret (v := .tuple #[.agg #[.int .i64 18, .int .i32 0, .bool false, .bool false, .bool false, .string s], .int .i64 s.size]) (by simp [results, Tryd.results74, go_sem, hc, hz']) rfl ⟨ret_un' rfl, ?_⟩
  exact bel6 (bel_ca hb) (Nat.le_refl _)
set_option maxRecDepth 100000 in
theorem meta_calls (c : Int) (w : World) : Calls Tryd.prog 76 #[.int .i32 c] w fun e w' => e = .returned (knV (withM c)) ∧ Below w.heap.size w w' := by
  go_enter Tryd.func76, Tryd.ntmps76
  go_wp2
  refine bodyPost_ret (v := .tuple #[.agg #[.int .i64 1, .int .i32 c, .bool false, .bool true, .bool false, .string ⟨#[]⟩], .int .i64 2]) (by simp [results, Tryd.results76, go_sem]) rfl ⟨rfl, ?_⟩
  exact bel_a _ _
theorem head_of (s : ByteArray) (h0 : 0 < s.size) : ∃ r, s.data.toList = s[0] :: r := ⟨_, by have := drop_cons s 0 h0; rw [List.drop_zero] at this; exact this⟩
theorem take1 (s : ByteArray) (h0 : 0 < s.size) : (s.extract 0 1).data.toList = [s[0]] := by
  obtain ⟨r, hl⟩ := head_of s h0
  rw [Lib.extract_data, hl]; rfl
set_option maxHeartbeats 1000000 in
set_option maxRecDepth 100000 in
theorem plain_p1 (last : Bool) (s : ByteArray) (h0 : 0 < s.size) (w : World) (HT : Hid (Tb w)) (hc : (s[0].toNat : Int) < 256) (hz : (0 : Int) < s.size) (q1 : ((s[0].toNat : Int) == 127) = true) (H : Hid (plain last s.data.toList = (⟨2, 63, true, false, false, []⟩, 1))) :
    Calls Tryd.prog 52 #[.string s, .bool last] w fun e w' => e = .returned (knV (plain last s.data.toList)) ∧ Below w.heap.size w w' := by
  go_enter Tryd.func52, Tryd.ntmps52
  go_wp2
  refine bodyPost_ret (v := .tuple #[.agg #[.int .i64 2, .int .i32 63, .bool true, .bool false, .bool false, .string ⟨#[]⟩], .int .i64 1]) (by simp [results, Tryd.results52, go_sem]) rfl ⟨ret_kn H.out, bel_a _ _⟩
set_option maxHeartbeats 1000000 in
set_option maxRecDepth 100000 in
theorem plain_p2 (last : Bool) (s : ByteArray) (h0 : 0 < s.size) (w : World) (HT : Hid (Tb w)) (hc : (s[0].toNat : Int) < 256) (hz : (0 : Int) < s.size) (q1 : ((s[0].toNat : Int) == 127) = false) (h2' : (s[0].toNat : Int) < 32) (H : Hid (plain last s.data.toList = (⟨2, (s[0].toNat : Int) + 64, true, false, false, []⟩, 1))) :
    Calls Tryd.prog 52 #[.string s, .bool last] w fun e w' => e = .returned (knV (plain last s.data.toList)) ∧ Below w.heap.size w w' := by
  go_enter Tryd.func52, Tryd.ntmps52
  go_wp2
  refine bodyPost_ret (v := .tuple #[.agg #[.int .i64 2, .int .i32 (s[0].toNat + 64), .bool true, .bool false, .bool false, .string ⟨#[]⟩], .int .i64 1]) (by simp [results, Tryd.results52, go_sem]) rfl ⟨ret_kn H.out, bel_a _ _⟩
set_option maxHeartbeats 1000000 in
set_option maxRecDepth 100000 in
theorem plain_p3 (last : Bool) (s : ByteArray) (h0 : 0 < s.size) (w : World) (HT : Hid (Tb w)) (hc : (s[0].toNat : Int) < 256) (hz : (0 : Int) < s.size) (q1 : ((s[0].toNat : Int) == 127) = false) (h2' : 32 ≤ (s[0].toNat : Int)) (HB : Hid (begun s.data.toList = true)) (H : Hid (plain false s.data.toList = (key0, 0))) :
    Calls Tryd.prog 52 #[.string s, .bool false] w fun e w' => e = .returned (knV (plain false s.data.toList)) ∧ Below w.heap.size w w' := by
  go_enter Tryd.func52, Tryd.ntmps52
  go_wp2_with (go_at_call 73; (with_reducible refine (begun_calls s h0 _ (HT.out.below (bel_a _ _))).mono ?_); rintro e wz ⟨rfl, hb⟩; obtain ⟨hc', hf⟩ := bcell hb; have hz' := lt_alloc hb; rw [HB.out])
  refine bodyPost_ret (v := .tuple #[.agg #[.int .i64 0, .int .i32 0, .bool false, .bool false, .bool false, .string ⟨#[]⟩], .int .i64 0]) (by simp [results, Tryd.results52, go_sem, hc', hz']) rfl ⟨ret_kn (k' := key0) H.out, bel6 (bel_ca hb) (Nat.le_refl _)⟩
set_option maxHeartbeats 1000000 in
set_option maxRecDepth 100000 in
theorem plain_p4 (last : Bool) (s : ByteArray) (h0 : 0 < s.size) (w : World) (HT : Hid (Tb w)) (hc : (s[0].toNat : Int) < 256) (hz : (0 : Int) < s.size) (q1 : ((s[0].toNat : Int) == 127) = false) (h2' : 32 ≤ (s[0].toNat : Int)) (h3 : (fst s.data.toList).1 < 0) (HB : Hid (begun s.data.toList = false)) (H : Hid (plain false s.data.toList = (⟨4, 0, false, false, false, (s.extract 0 1).data.toList⟩, 1))) :
    Calls Tryd.prog 52 #[.string s, .bool false] w fun e w' => e = .returned (knV (plain false s.data.toList)) ∧ Below w.heap.size w w' := by
  go_enter Tryd.func52, Tryd.ntmps52
  go_wp2_with (first
    | (go_at_call 73; (with_reducible refine (begun_calls s h0 _ (HT.out.below (bel_a _ _))).mono ?_); rintro e wz ⟨rfl, hb⟩; obtain ⟨hc', hf⟩ := bcell hb; have hz' := lt_alloc hb; rw [HB.out])
    | (go_at_call 70; (with_reducible refine (at0 s h0 _ (HT.out.below (bel_ca hb))).mono ?_); rintro e wy ⟨rfl, hb2⟩; obtain ⟨hc2, hf2⟩ := bcell hb2; have hy' := lt_next hz' hb2; unfold unV))
  refine bodyPost_ret (v := .tuple #[.agg #[.int .i64 4, .int .i32 0, .bool false, .bool false, .bool false, .string (s.extract 0 1)], .int .i64 1]) (by simp [results, Tryd.results52, go_sem, hc', hz', hc2, hy']) rfl ⟨ret_kn H.out, bel_alloc (bel6 (bel_call (bel_ca hb) hb2) (Nat.le_refl _)) _⟩
set_option maxHeartbeats 1000000 in
set_option maxRecDepth 100000 in
theorem plain_p5 (last : Bool) (s : ByteArray) (h0 : 0 < s.size) (w : World) (HT : Hid (Tb w)) (hc : (s[0].toNat : Int) < 256) (hz : (0 : Int) < s.size) (q1 : ((s[0].toNat : Int) == 127) = false) (h2' : 32 ≤ (s[0].toNat : Int)) (h3 : (fst s.data.toList).1 < 0) (H : Hid (plain true s.data.toList = (⟨4, 0, false, false, false, (s.extract 0 1).data.toList⟩, 1))) :
    Calls Tryd.prog 52 #[.string s, .bool true] w fun e w' => e = .returned (knV (plain true s.data.toList)) ∧ Below w.heap.size w w' := by
  go_enter Tryd.func52, Tryd.ntmps52
  go_wp2_with (go_at_call 70; (with_reducible refine (at0 s h0 _ (HT.out.below (bel_a _ _))).mono ?_); rintro e wy ⟨rfl, hb2⟩; obtain ⟨hc2, hf2⟩ := bcell hb2; have hy' := lt_alloc hb2; unfold unV)
  refine bodyPost_ret (v := .tuple #[.agg #[.int .i64 4, .int .i32 0, .bool false, .bool false, .bool false, .string (s.extract 0 1)], .int .i64 1]) (by simp [results, Tryd.results52, go_sem, hc2, hy']) rfl ⟨ret_kn H.out, bel_alloc (bel6 (bel_ca hb2) (Nat.le_refl _)) _⟩
set_option maxHeartbeats 1000000 in
set_option maxRecDepth 100000 in
theorem plain_p7 (s : ByteArray) (h0 : 0 < s.size) (w : World) (HT : Hid (Tb w)) (hc : (s[0].toNat : Int) < 256) (hz : (0 : Int) < s.size) (q1 : ((s[0].toNat : Int) == 127) = false) (h2' : 32 ≤ (s[0].toNat : Int)) (h3 : 0 ≤ (fst s.data.toList).1) (H : Hid (plain true s.data.toList = (⟨1, (fst s.data.toList).1, false, false, false, []⟩, (fst s.data.toList).2))) :
    Calls Tryd.prog 52 #[.string s, .bool true] w fun e w' => e = .returned (knV (plain true s.data.toList)) ∧ Below w.heap.size w w' := by
  go_enter Tryd.func52, Tryd.ntmps52
  go_wp2_with (go_at_call 70; (with_reducible refine (at0 s h0 _ (HT.out.below (bel_a _ _))).mono ?_); rintro e wy ⟨rfl, hb2⟩; obtain ⟨hc2, hf2⟩ := bcell hb2; have hy' := lt_alloc hb2; unfold unV)
  have hne : ¬ wy.heap.size = w.heap.size := by omega
  go_region
  all_goals (try go_wp2)
  all_goals refine bodyPost_ret (v := .tuple #[.agg #[.int .i64 1, .int .i32 (fst s.data.toList).1, .bool false, .bool false, .bool false, .string ⟨#[]⟩], .int .i64 (fst s.data.toList).2]) (by simp [results, Tryd.results52, go_sem, hc2, hy']) rfl ⟨ret_kn H.out, bel_drew (bel_alloc (bel6 (bel_ca hb2) (Nat.le_refl _)) _)⟩
set_option maxHeartbeats 1000000 in
set_option maxRecDepth 100000 in
theorem plain_p6 (s : ByteArray) (h0 : 0 < s.size) (w : World) (HT : Hid (Tb w)) (hc : (s[0].toNat : Int) < 256) (hz : (0 : Int) < s.size) (q1 : ((s[0].toNat : Int) == 127) = false) (h2' : 32 ≤ (s[0].toNat : Int)) (h3 : 0 ≤ (fst s.data.toList).1) (HB : Hid (begun s.data.toList = false)) (H : Hid (plain false s.data.toList = (⟨1, (fst s.data.toList).1, false, false, false, []⟩, (fst s.data.toList).2))) :
    Calls Tryd.prog 52 #[.string s, .bool false] w fun e w' => e = .returned (knV (plain false s.data.toList)) ∧ Below w.heap.size w w' := by
  go_enter Tryd.func52, Tryd.ntmps52
  go_wp2_with (first
    | (go_at_call 73; (with_reducible refine (begun_calls s h0 _ (HT.out.below (bel_a _ _))).mono ?_); rintro e wz ⟨rfl, hb⟩; obtain ⟨hc', hf⟩ := bcell hb; have hz' := lt_alloc hb; rw [HB.out])
    | (go_at_call 70; (with_reducible refine (at0 s h0 _ (HT.out.below (bel_ca hb))).mono ?_); rintro e wy ⟨rfl, hb2⟩; obtain ⟨hc2, hf2⟩ := bcell hb2; have hy' := lt_next hz' hb2; unfold unV))
  have hne : ¬ wy.heap.size = w.heap.size := by omega
  go_region
  all_goals (try go_wp2)
  all_goals refine bodyPost_ret (v := .tuple #[.agg #[.int .i64 1, .int .i32 (fst s.data.toList).1, .bool false, .bool false, .bool false, .string ⟨#[]⟩], .int .i64 (fst s.data.toList).2]) (by simp [results, Tryd.results52, go_sem, hc', hz', hc2, hy']) rfl ⟨ret_kn H.out, bel_drew (bel_alloc (bel6 (bel_call (bel_ca hb) hb2) (Nat.le_refl _)) _)⟩
theorem plain_calls (last : Bool) (s : ByteArray) (h0 : 0 < s.size) (w : World) (hT : Tb w) :
    Calls Tryd.prog 52 #[.string s, .bool last] w fun e w' => e = .returned (knV (plain last s.data.toList)) ∧ Below w.heap.size w w' := by
  obtain ⟨r, hl⟩ := head_of s h0
  have hc : (s[0].toNat : Int) < 256 := by have := s[0].toNat_lt; omega
  have hz : (0 : Int) < s.size := by omega
  by_cases h1 : s[0].toNat = 127
  · exact plain_p1 last s h0 w (Lib.hid hT) hc hz (beq_true_i (by omega)) (by show _ = _; rw [hl]; exact plain_del last r h1)
  have q1 : ((s[0].toNat : Int) == 127) = false := beq_false_i (by omega)
  by_cases h2 : s[0].toNat < 32
  · exact plain_p2 last s h0 w (Lib.hid hT) hc hz q1 (by omega) (by show _ = _; rw [hl]; exact plain_ctl last r h1 h2)
  have h2' : 32 ≤ (s[0].toNat : Int) := by omega
  cases last
  · cases hb : begun s.data.toList
    · have hb' := hb
      rw [hl] at hb'
      by_cases h3 : (fst s.data.toList).1 < 0
      · exact plain_p4 false s h0 w (Lib.hid hT) hc hz q1 h2' h3 hb (by show _ = _; rw [take1 s h0, hl]; exact plain_bad false r h1 h2 (.inr hb') (by rw [← hl]; exact h3))
      · exact plain_p6 s h0 w (Lib.hid hT) hc hz q1 h2' (by omega) hb (by show _ = _; rw [hl]; exact plain_chr false r h1 h2 (.inr hb') (by rw [← hl]; exact h3))
    · have hb' := hb
      rw [hl] at hb'
      exact plain_p3 false s h0 w (Lib.hid hT) hc hz q1 h2' hb (by show _ = _; rw [hl]; exact plain_wait r h1 h2 hb')
  · by_cases h3 : (fst s.data.toList).1 < 0
    · exact plain_p5 true s h0 w (Lib.hid hT) hc hz q1 h2' h3 (by show _ = _; rw [take1 s h0, hl]; exact plain_bad true r h1 h2 (.inl rfl) (by rw [← hl]; exact h3))
    · exact plain_p7 s h0 w (Lib.hid hT) hc hz q1 h2' (by omega) (by show _ = _; rw [hl]; exact plain_chr true r h1 h2 (.inl rfl) (by rw [← hl]; exact h3))
end Go.Proofs.YtjjilhfebkeoeaaDoor.Ky
