/- The tables; unit.first, around, Boundary, At, Next, Prev, Down: walked. -/
import Derived.Test.YtoodidokjchplaaDoorMeT
import Derived.Test.YtoodidokjchplaaDoorShelf
import Derived.Test.YtoodidokjchplaaDoorWk
import Derived.Lib.LaidTab
import Derived.LoopTactic
import Derived.Deep.LoopGhost
import Derived.Deep.DeepCutAuto
import Derived.Outline
import Derived.Lib.Hide
import Derived.BigQuiet
import Derived.BigRegion
import Derived.RegionTactic
import Derived.ChangeAlike
import Derived.StillTailTactics
namespace Go.Proofs.YtoodidokjchplaaDoor.Un
open Go Go.RowKit
open Go.Proofs.YtoodidokjchplaaDoor.Wk (bcell bel_drew bel_drewN bel_alloc bel_set bel_call size_len mk_data beq_true_i bne_true_i bne_false_i beq_false_i drop_cons var_below blk_cell blk_below blk_lt blk_alloc)
set_option linter.unusedVariables false
set_option linter.unusedSimpArgs false
/-- What the walks read of the library's variables. -/
structure Tb (w : World) : Prop where
  u : Lib.Utf8Tabs 2 3 w
theorem Tb.below {w W : World} (h : Tb w) (hb : Below w.heap.size w W) : Tb W := by
  have hc : ∀ (a : Addr) v, w.cell? a = some v → W.cell? a = some v := fun a v ha => (hb.cell (World.block_lt_of_cell? _ _ ha)).trans ha
  exact ⟨⟨fun c hc' => hc _ _ (h.u.1 c hc'), fun i hi => ⟨hc _ _ (h.u.2 i hi).1, hc _ _ (h.u.2 i hi).2⟩⟩⟩
def unV (l : List UInt8) : Value := .agg #[.int .i32 (fst l).1, .int .i64 (fst l).2]
theorem run_size (c n : Int) (w : World) : (Instr.field 88 (.agg #[.int .i32 c, .int .i64 n]) 1).run Tryd.prog w = .ok (.int .i64 n) w := by kernel_rfl
theorem run_char (c n : Int) (w : World) : (Instr.field 88 (.agg #[.int .i32 c, .int .i64 n]) 0).run Tryd.prog w = .ok (.int .i32 c) w := by kernel_rfl
theorem decode_calls (s : ByteArray) (h0 : 0 < s.size) (w : World) (hT : Tb w) (a b : Nat) (hd : dec s.data.toList = (a, b)) :
    Calls Tryd.prog 113 #[.string s] w fun e w' => e = .returned (.tuple #[.int .i32 a, .int .i64 b]) ∧ Below w.heap.size w w' :=
  (Tryd.utf8_DecodeRuneInString s w hT.u).mono (by
    rintro e w' ⟨rfl, hb⟩
    rw [dec_go s h0, hd]
    exact ⟨rfl, hb⟩)
theorem ret_un {l : List UInt8} {a b : Int} (h1 : (fst l).1 = a) (h2 : ((fst l).2 : Int) = b) : Ending.returned (.agg #[.int .i32 a, .int .i64 b]) = .returned (unV l) := by unfold unV; rw [h1, h2]
set_option maxRecDepth 100000 in
theorem first_calls (s : ByteArray) (h0 : 0 < s.size) (w : World) (hT : Tb w) :
    Calls Tryd.prog 103 #[.string s] w fun e w' => e = .returned (unV s.data.toList) ∧ Below w.heap.size w w' := by
  obtain ⟨a, r, hl⟩ : ∃ a r, s.data.toList = a :: r := List.exists_cons_of_ne_nil (fun e => by have := size_len s; rw [e] at this; simp at this; omega)
  have hB := fst_bound s.data.toList
  rcases dec_fst a r with ⟨h1, h2⟩ | ⟨h1, h2, h3⟩
  · rw [← hl] at h1 h2
    have hf : Hid (fst s.data.toList = (-1, 1)) := by
      show _ = _
      rw [hl] at h1 ⊢
      exact (fst_neg h1).1
    have HD := fun W hT => decode_calls s h0 W hT _ _ h2
    replace HD := Lib.hid HD
    have HT := Lib.hid hT
    clear hl h1 h2 hB hT
    go_enter Tryd.func103, Tryd.ntmps103
    go_wp2_with (go_at_call 113; refine (HD.out _ (HT.out.below ((Below.refl _ _).alloc (Nat.le_refl _) _))).mono ?_; rintro e wz ⟨rfl, hb⟩; obtain ⟨hc, hf'⟩ := bcell hb; have hz := hb.size)
    refine bodyPost_ret (v := .agg #[.int .i32 (-1), .int .i64 1]) (by simp [results, Tryd.results103, go_sem, hc]) rfl ⟨ret_un (by rw [hf.out]) (by rw [hf.out]; rfl), ?_⟩
    repeat (with_reducible first | refine bel_call ?_ hb | refine bel_alloc ?_ _ | refine bel_set ?_ (Nat.le_refl _) _ | exact Below.refl _ _)
  · rw [← hl] at h1 h2 h3
    have HD := fun W hT => decode_calls s h0 W hT _ _ h2
    replace HD := Lib.hid HD
    have HT := Lib.hid hT
    obtain ⟨c, hc0⟩ : ∃ c : Nat, c = (fst s.data.toList).1.toNat := ⟨_, rfl⟩
    obtain ⟨n, hn0⟩ : ∃ n, n = (fst s.data.toList).2 := ⟨_, rfl⟩
    rw [← hc0, ← hn0] at HD
    have hC : Hid ((fst s.data.toList).1 = (c : Int)) := (by omega : (fst s.data.toList).1 = (c : Int))
    have hN : Hid (((fst s.data.toList).2 : Int) = (n : Int)) := by show _ = _; rw [← hn0]
    have hn : (n : Int) ≤ 4 := by omega
    have hcb : (c : Int) ≤ 1114111 := by omega
    by_cases g : (c : Int) = 65533
    · have q1 := beq_true_i g
      have q2 : ((n : Int) == 1) = false := beq_false_i (by have := h3 (by omega); omega)
      clear hl h1 h2 h3 hB hT hc0 hn0 g
      go_enter Tryd.func103, Tryd.ntmps103
      go_wp2_with (go_at_call 113; refine (HD.out _ (HT.out.below ((Below.refl _ _).alloc (Nat.le_refl _) _))).mono ?_; rintro e wz ⟨rfl, hb⟩; obtain ⟨hc, hf'⟩ := bcell hb; have hz := hb.size)
      refine bodyPost_ret (v := .agg #[.int .i32 c, .int .i64 n]) (by simp [results, Tryd.results103, go_sem, hc]) rfl ⟨ret_un hC.out hN.out, ?_⟩
      repeat (with_reducible first | refine bel_call ?_ hb | refine bel_alloc ?_ _ | refine bel_set ?_ (Nat.le_refl _) _ | exact Below.refl _ _)
    · have q1 := beq_false_i g
      clear hl h1 h2 h3 hB hT hc0 hn0 g
      go_enter Tryd.func103, Tryd.ntmps103
      go_wp2_with (go_at_call 113; refine (HD.out _ (HT.out.below ((Below.refl _ _).alloc (Nat.le_refl _) _))).mono ?_; rintro e wz ⟨rfl, hb⟩; obtain ⟨hc, hf'⟩ := bcell hb; have hz := hb.size)
      refine bodyPost_ret (v := .agg #[.int .i32 c, .int .i64 n]) (by simp [results, Tryd.results103, go_sem, hc]) rfl ⟨ret_un hC.out hN.out, ?_⟩
      repeat (with_reducible first | refine bel_call ?_ hb | refine bel_alloc ?_ _ | refine bel_set ?_ (Nat.le_refl _) _ | exact Below.refl _ _)
/-- first, from a place on. -/
theorem first_at (s t : ByteArray) (j n : Nat) (ch : Int) (ht : s.extract j s.size = t) (hj : j < s.size) (h1 : chAt s.data.toList j = ch) (h2 : szAt s.data.toList j = n) (w : World) (hT : Tb w) :
    Calls Tryd.prog 103 #[.string t] w fun e w' => e = .returned (.agg #[.int .i32 ch, .int .i64 (n : Nat)]) ∧ Below w.heap.size w w' := by
  subst ht h1 h2
  have hx : (s.extract j s.size).data.toList = s.data.toList.drop j := Lib.extract_to_end s j
  have h := first_calls (s.extract j s.size) (by rw [← size_len, hx, List.length_drop, size_len]; omega) w hT
  unfold unV at h
  rw [hx] at h
  exact h
theorem ret_i {a b : Int} (h : a = b) : Ending.returned (.int .i64 a) = .returned (.int .i64 b) := by rw [h]
theorem ret_b {a b : Bool} (h : a = b) : Ending.returned (.bool a) = .returned (.bool b) := by rw [h]
theorem ret_ii {a b c d : Int} (h1 : a = c) (h2 : b = d) : Ending.returned (.tuple #[.int .i64 a, .int .i64 b]) = .returned (.tuple #[.int .i64 c, .int .i64 d]) := by rw [h1, h2]
set_option maxHeartbeats 4000000 in
set_option maxRecDepth 100000 in
theorem around_calls (s : ByteArray) (i : Nat) (hi : i ≤ s.size) (hs : s.size ≤ 1000000000) (w : World) (hT : Tb w) :
    Calls Tryd.prog 99 #[.string s, .int .i64 i] w fun e w' => e = .returned (.tuple #[.int .i64 (arL s.data.toList i).1, .int .i64 (arL s.data.toList i).2]) ∧ Below w.heap.size w w' := by
  have HT := Lib.hid hT
  obtain ⟨a, ha⟩ : ∃ a, arL s.data.toList i = a := ⟨_, rfl⟩
  rw [ha]
  obtain ⟨jb, hjb⟩ : ∃ jb, i - min i 3 = jb := ⟨_, rfl⟩
  obtain ⟨nb, hnb⟩ : ∃ nb, min i 3 = nb := ⟨_, rfl⟩
  have hmx : max 0 ((i : Int) - 3) = (jb : Int) := by omega
  have hjn0 : jb + nb = i := by omega
  have hst : Hid (arFrom s.data.toList i nb jb = a) := (by rw [← hjb, ← hnb]; exact ha : arFrom s.data.toList i nb jb = a)
  clear hjb hnb
  clear hT ha
  go_enter Tryd.func99, Tryd.ntmps99
  go_upto_region 2 with fail
  clear hmx
  go_wp2
  go_loopw [6] (fun v6 wr => ∃ j n : Nat, v6 = .int .i64 j ∧ j + n = i ∧ Hid (arFrom s.data.toList i n j = a) ∧ Hid (Below w.heap.size w wr)) (fun v6 _ => i - (intOf v6).toNat)
  case atStart => exact ⟨jb, nb, rfl, hjn0, hst.out, Below.refl _ _⟩
  case round =>
    clear hst
    obtain ⟨j, n, rfl, hjn, har, hB⟩ := hrel
    by_cases hlt : j < i
    · obtain ⟨m, rfl⟩ : ∃ m, n = m + 1 := ⟨n - 1, by omega⟩
      obtain ⟨t, ht⟩ : ∃ t, s.extract j s.size = t := ⟨_, rfl⟩
      obtain ⟨ch, hch⟩ : ∃ ch, chAt s.data.toList j = ch := ⟨_, rfl⟩
      obtain ⟨k, hk⟩ : ∃ k, szAt s.data.toList j = k := ⟨_, rfl⟩
      have hk4 := sz_lt5 s.data.toList j
      have harr := har.out
      unfold arFrom at harr
      rw [hk] at harr hk4
      have fc := fun W hW => first_at s t j k ch ht (by omega) hch hk W hW
      replace fc := Lib.hid fc
      have ji : (j : Int) < i := by omega
      have j0 : (0 : Int) ≤ j := by omega
      have js : (j : Int) ≤ s.size := by omega
      have hkb : (k : Int) ≤ 4 := by omega
      by_cases hsp : i < j + k
      · rw [if_pos hsp] at harr
        have hsi : (i : Int) < (j : Int) + k := by omega
        have HA := Lib.hid harr
        clear hch hk har hk4 harr
        go_wp2_with (go_at_call 103; (try rw [ht]); (with_reducible refine (fc.out _ (HT.out.below hB.out)).mono ?_); rintro e wz ⟨rfl, hb⟩; have HB1 := Lib.hid (bel_call hB.out hb); clear hb)
        go_quiet (fail)
        go_wp2
        go_ret2
        exact ⟨by rw [← HA.out]; rfl, bel_drewN (bel_alloc HB1.out _) _⟩
      · rw [if_neg hsp] at harr
        have hsi : ¬ (i : Int) < (j : Int) + k := by omega
        have HA := Lib.hid harr
        clear hch hk har hk4 harr
        go_wp2_with (go_at_call 103; (try rw [ht]); (with_reducible refine (fc.out _ (HT.out.below hB.out)).mono ?_); rintro e wz ⟨rfl, hb⟩; have HB1 := Lib.hid (bel_call hB.out hb); clear hb)
        go_roundw
        case rel => exact ⟨j + 1, m, by go_num, by omega, HA.out, bel_alloc HB1.out _⟩
        case measure => simp [intOf]; omega
    · obtain rfl : n = 0 := by omega
      obtain rfl : j = i := by omega
      have harr := har.out
      unfold arFrom at harr
      rw [size_len] at harr
      by_cases hje : j = s.size
      · rw [if_pos hje] at harr
        have q : ((j : Int) == (s.size : Int)) = true := beq_true_i (by omega)
        have HA := Lib.hid harr
        clear har harr hje
        go_wp2
        go_ret2
        exact ⟨by rw [← HA.out]; rfl, hB.out⟩
      · rw [if_neg hje] at harr
        obtain ⟨t, ht⟩ : ∃ t, s.extract j s.size = t := ⟨_, rfl⟩
        obtain ⟨ch, hch⟩ : ∃ ch, chAt s.data.toList j = ch := ⟨_, rfl⟩
        obtain ⟨k, hk⟩ : ∃ k, szAt s.data.toList j = k := ⟨_, rfl⟩
        have hk4 := sz_lt5 s.data.toList j
        rw [hk] at harr hk4
        have fc := fun W hW => first_at s t j k ch ht (by omega) hch hk W hW
        have rs := fun w => run_size ch k w
        replace fc := Lib.hid fc
        have q : ((j : Int) == (s.size : Int)) = false := beq_false_i (by omega)
        have j0 : (0 : Int) ≤ j := by omega
        have js : (j : Int) ≤ s.size := by omega
        have hkb : (k : Int) ≤ 4 := by omega
        have HA := Lib.hid harr
        clear hch hk har hk4 harr hje
        go_wp2_with (go_at_call 103; (try rw [ht]); (with_reducible refine (fc.out _ (HT.out.below hB.out)).mono ?_); rintro e wz ⟨rfl, hb⟩; have HB1 := Lib.hid (bel_call hB.out hb); clear hb)
        go_ret2
        exact ⟨by rw [← HA.out]; rfl, HB1.out⟩
end Go.Proofs.YtoodidokjchplaaDoor.Un
