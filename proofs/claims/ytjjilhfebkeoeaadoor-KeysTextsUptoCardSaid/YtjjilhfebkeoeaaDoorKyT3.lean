/- sequence: its eight walks (gen/gen_sequence.py printed them). -/
import Derived.Test.YtjjilhfebkeoeaaDoorKyM
import Derived.Deep.DeepCutAuto
import Derived.Test.YtjjilhfebkeoeaaDoorPKyx2
import Derived.Maps.AppendAt
import Derived.Laws.AppendOwn
namespace Go.Proofs.YtjjilhfebkeoeaaDoor.Ky
open Go Go.RowKit Go.Proofs.YtjjilhfebkeoeaaDoor.PKy
open Go.Proofs.YtjjilhfebkeoeaaDoorW.PrintWords (bt rdOf Kd Drawn0 Reps Aside0)
open Go.Proofs.YtjjilhfebkeoeaaDoor.Wk (string_of_own bcell bel_drew bel_drewN bel_alloc bel_set bel_call size_len mk_data beq_true_i bne_true_i bne_false_i beq_false_i drop_cons var_below blk_alloc blk_below blk_drewN blk_cell blk_frozen blk_far blk_set blk_lt own_slice own_below cells_new)
set_option linter.unusedVariables false
set_option linter.unusedSimpArgs false


set_option maxHeartbeats 8000000 in
set_option maxRecDepth 1000000 in
theorem seq_5 (kind char : Int) (text : List UInt8) (w : World) : Calls Tryd.prog 39 #[keyV ⟨kind, char, true, false, false, text⟩] w fun e w' => e = .returned (.string ⟨(seqL ⟨kind, char, true, false, false, text⟩).toArray⟩) ∧ Below w.heap.size w w' := by
  unfold keyV
  simp only
  obtain ⟨D, hD⟩ : ∃ D : ByteArray, D = ⟨(Lib.decDigits 5).toArray⟩ := ⟨_, rfl⟩
  have itM0 : ∀ W, Calls Tryd.prog 41 #[.int .i64 5] W (fun e w' => e = .returned (.string D) ∧ w' = W) := fun W => by rw [hD]; exact itoa_calls 5 (by decide) W
  have itM := Lib.hid itM0
  have hMs : D.size ≤ 10 := by rw [hD, ← size_len]; exact dec_len (by decide)
  have HDM : Hid (D.data.toList = Lib.decDigits 5) := by show _ = _; rw [hD]
  clear itM0 hD
  go_enter Tryd.func39, Tryd.ntmps39
  go_wp2
  go_loopw [4] (fun v4 wr => ∃ b : Nat, v4 = .int .u8 b ∧ 65 ≤ b ∧ b ≤ 91 ∧ Hid (∀ j, 65 ≤ j → j < b → fitsB ⟨kind, char, true, false, false, text⟩ (lettered j) = false) ∧ Hid (Below (w.alloc (.cells #[.int .i64 kind, .int .i32 char, .bool true, .bool false, .bool false, .string ⟨text.toArray⟩] 50)).heap.size (w.alloc (.cells #[.int .i64 kind, .int .i32 char, .bool true, .bool false, .bool false, .string ⟨text.toArray⟩] 50)) wr)) (fun v4 _ => 91 - (intOf v4).toNat)
  case atStart => exact ⟨65, rfl, by omega, by omega, fun j h1 h2 => absurd h1 (by omega), Below.refl _ _⟩
  case round =>
    obtain ⟨b, rfl, hb65, hb91, hno, hW⟩ := hrel
    have k0 : wr.cell? ⟨w.heap.size, 0, none⟩ = some (.int .i64 kind) := blk_cell (blk_below (heap_alloc_new w (.cells #[.int .i64 kind, .int .i32 char, .bool true, .bool false, .bool false, .string ⟨text.toArray⟩] 50)) hW.out) 0
    have k1 : wr.cell? ⟨w.heap.size, 1, none⟩ = some (.int .i32 char) := blk_cell (blk_below (heap_alloc_new w (.cells #[.int .i64 kind, .int .i32 char, .bool true, .bool false, .bool false, .string ⟨text.toArray⟩] 50)) hW.out) 1
    have klt : w.heap.size < wr.heap.size := lt_alloc hW.out
    by_cases hlt : b ≤ 90
    · obtain ⟨l, hl⟩ : ∃ l, lettered b = l := ⟨_, rfl⟩
      have hbi : (b : Int) ≤ 90 := by omega
      have hbi2 : (65 : Int) ≤ b := by omega
      have hb256 : b < 256 := by omega
      obtain ⟨E, hE⟩ : ∃ E, Utf8.encode (b : Int) = E := ⟨_, rfl⟩
      have HE : Hid (E.data.toList = [UInt8.ofNat b]) := (by rw [← hE]; exact enc_byte (by omega) : E.data.toList = [UInt8.ofNat b])
      have hEs : E.size ≤ 10 := by rw [← size_len, HE.out]; simp
      have HL := Lib.hid hl
      clear hl
      by_cases h1 : l.kind = kind
      · have q1 : (l.kind != kind) = false := bne_false_i h1
        by_cases h2 : l.kind = 0
        · have q2 : (l.kind == 0) = true := beq_true_i h2
          have hf : Hid (fitsB ⟨kind, char, true, false, false, text⟩ (lettered b) = false) := (by rw [HL.out]; simp [fitsB, h2] : fitsB ⟨kind, char, true, false, false, text⟩ (lettered b) = false)
          clear h1 h2
          go_wp2_with (go_at_call 57; (with_reducible refine (lettered_calls b hb256 _).mono ?_); rintro e wz ⟨rfl, hz⟩; rw [HL.out]; obtain ⟨hc', hf'⟩ := bcell hz; have klt2 := lt_next klt hz; unfold keyV)
          exact ⟨⟨b + 1, by go_num, by omega, by omega, fun j g1 g2 => by
            rcases Nat.lt_or_ge j b with h | h
            · exact hno.out j g1 h
            · rw [show j = b from by omega]; exact hf.out, bel_alloc (bel_call hW.out hz) _⟩, by first | (simp [intOf]; omega) | simp [intOf]⟩
        · have q2 : (l.kind == 0) = false := beq_false_i h2
          by_cases h3 : l.char = char
          · have q3 : (l.char != char) = false := bne_false_i h3
            have hf : Hid (findL ⟨kind, char, true, false, false, text⟩ = some b) := (find_some_at 26 65 b hb65 (by omega) hno.out (by rw [HL.out]; simp [fitsB, h1, h3]; rintro rfl; exact h2 h1) : findL ⟨kind, char, true, false, false, text⟩ = some b)
            by_cases g15 : kind = 15
            · have q4 : (kind == 15) = true := beq_true_i g15
              clear h1 h2 h3 g15
              go_wp2_with (first
                | (go_at_call 57; (with_reducible refine (lettered_calls b hb256 _).mono ?_); rintro e wz ⟨rfl, hz⟩; rw [HL.out]; obtain ⟨hc', hf'⟩ := bcell hz; have klt2 := lt_next klt hz; unfold keyV)
                | (go_at_call 41; (with_reducible refine (itM.out _).mono ?_); rintro e wy ⟨rfl, rfl⟩))
              go_ret
              exact ⟨ret_s (by rw [seq_L hf.out, letter_n (m := 5) rfl (by decide) (.inr (by decide)), data_app, data_app, HE.out, HDM.out]), bel_alloc (bel_call (bel_ca hW.out) hz) _⟩
            · have q4 : (kind == 15) = false := beq_false_i g15
              clear h1 h2 h3 g15
              go_wp2_with (first
                | (go_at_call 57; (with_reducible refine (lettered_calls b hb256 _).mono ?_); rintro e wz ⟨rfl, hz⟩; rw [HL.out]; obtain ⟨hc', hf'⟩ := bcell hz; have klt2 := lt_next klt hz; unfold keyV)
                | (go_at_call 41; (with_reducible refine (itM.out _).mono ?_); rintro e wy ⟨rfl, rfl⟩))
              go_ret
              exact ⟨ret_s (by rw [seq_L hf.out, letter_n (m := 5) rfl (by decide) (.inr (by decide)), data_app, data_app, HE.out, HDM.out]), bel_alloc (bel_call (bel_ca hW.out) hz) _⟩
          · have q3 : (l.char != char) = true := bne_true_i h3
            have hf : Hid (fitsB ⟨kind, char, true, false, false, text⟩ (lettered b) = false) := (by rw [HL.out]; simp [fitsB, h3] : fitsB ⟨kind, char, true, false, false, text⟩ (lettered b) = false)
            clear h1 h2 h3
            go_wp2_with (go_at_call 57; (with_reducible refine (lettered_calls b hb256 _).mono ?_); rintro e wz ⟨rfl, hz⟩; rw [HL.out]; obtain ⟨hc', hf'⟩ := bcell hz; have klt2 := lt_next klt hz; unfold keyV)
            exact ⟨⟨b + 1, by go_num, by omega, by omega, fun j g1 g2 => by
              rcases Nat.lt_or_ge j b with h | h
              · exact hno.out j g1 h
              · rw [show j = b from by omega]; exact hf.out, bel_alloc (bel_call hW.out hz) _⟩, by first | (simp [intOf]; omega) | simp [intOf]⟩
      · have q1 : (l.kind != kind) = true := bne_true_i h1
        have hf : Hid (fitsB ⟨kind, char, true, false, false, text⟩ (lettered b) = false) := (by rw [HL.out]; simp [fitsB, h1] : fitsB ⟨kind, char, true, false, false, text⟩ (lettered b) = false)
        clear h1
        go_wp2_with (go_at_call 57; (with_reducible refine (lettered_calls b hb256 _).mono ?_); rintro e wz ⟨rfl, hz⟩; rw [HL.out]; obtain ⟨hc', hf'⟩ := bcell hz; have klt2 := lt_next klt hz; unfold keyV)
        exact ⟨⟨b + 1, by go_num, by omega, by omega, fun j g1 g2 => by
          rcases Nat.lt_or_ge j b with h | h
          · exact hno.out j g1 h
          · rw [show j = b from by omega]; exact hf.out, bel_alloc (bel_call hW.out hz) _⟩, by first | (simp [intOf]; omega) | simp [intOf]⟩
    · have hno2 : Hid (findL ⟨kind, char, true, false, false, text⟩ = none) := (find_none_to (fun j g1 g2 => hno.out j g1 (by omega)) : findL ⟨kind, char, true, false, false, text⟩ = none)
      have hge : (91 : Int) ≤ b := by omega
      clear hlt hno k0 k1 klt
      obtain ⟨wo, hwo⟩ : ∃ wo, wo = wr := ⟨_, rfl⟩
      subst hwo
      go_wp2
      go_loopw [6] (fun v6 ws => ∃ n : Nat, v6 = .int .i64 n ∧ 1 ≤ n ∧ n ≤ 30 ∧ Hid (∀ j, 1 ≤ j → j < n → fitsB ⟨kind, char, true, false, false, text⟩ (numbered j) = false) ∧ Hid (Below (w.alloc (.cells #[.int .i64 kind, .int .i32 char, .bool true, .bool false, .bool false, .string ⟨text.toArray⟩] 50)).heap.size (w.alloc (.cells #[.int .i64 kind, .int .i32 char, .bool true, .bool false, .bool false, .string ⟨text.toArray⟩] 50)) ws)) (fun v6 _ => 30 - (intOf v6).toNat)
      case atStart => exact ⟨1, rfl, by omega, by omega, fun j h1 h2 => absurd h1 (by omega), hW.out⟩
      case round =>
        clear hW hb65 hb91 hge
        rename_i wr2 _
        obtain ⟨n, rfl, hn1, hn30, hnn, hW⟩ := hrel
        have k0 : wr.cell? ⟨w.heap.size, 0, none⟩ = some (.int .i64 kind) := blk_cell (blk_below (heap_alloc_new w (.cells #[.int .i64 kind, .int .i32 char, .bool true, .bool false, .bool false, .string ⟨text.toArray⟩] 50)) hW.out) 0
        have k1 : wr.cell? ⟨w.heap.size, 1, none⟩ = some (.int .i32 char) := blk_cell (blk_below (heap_alloc_new w (.cells #[.int .i64 kind, .int .i32 char, .bool true, .bool false, .bool false, .string ⟨text.toArray⟩] 50)) hW.out) 1
        have klt : w.heap.size < wr.heap.size := lt_alloc hW.out
        by_cases hlt : n < 30
        · obtain ⟨l, hl⟩ : ∃ l, numbered n = l := ⟨_, rfl⟩
          have hni : (n : Int) < 30 := by omega
          have hn100 : n < 100 := by omega
          obtain ⟨E, hE⟩ : ∃ E : ByteArray, E = ⟨(Lib.decDigits n).toArray⟩ := ⟨_, rfl⟩
          have itN0 : ∀ W, Calls Tryd.prog 41 #[.int .i64 n] W (fun e w' => e = .returned (.string E) ∧ w' = W) := fun W => by rw [hE]; exact itoa_calls n hn100 W
          have itN := Lib.hid itN0
          have hNs : E.size ≤ 10 := by rw [hE, ← size_len]; exact dec_len hn100
          have HEN : Hid (E.data.toList = Lib.decDigits n) := by show _ = _; rw [hE]
          clear itN0 hE
          have HL := Lib.hid hl
          clear hl
          by_cases h1 : l.kind = kind
          · have q1 : (l.kind != kind) = false := bne_false_i h1
            by_cases h2 : l.kind = 0
            · have q2 : (l.kind == 0) = true := beq_true_i h2
              have hf : Hid (fitsB ⟨kind, char, true, false, false, text⟩ (numbered n) = false) := (by rw [HL.out]; simp [fitsB, h2] : fitsB ⟨kind, char, true, false, false, text⟩ (numbered n) = false)
              clear h1 h2
              go_wp2_with (go_at_call 58; (with_reducible refine (numbered_calls n _).mono ?_); rintro e wz ⟨rfl, hz⟩; rw [HL.out]; obtain ⟨hc', hf'⟩ := bcell hz; have klt2 := lt_next klt hz; unfold keyV)
              exact ⟨⟨n + 1, by go_num, by omega, by omega, fun j g1 g2 => by
                rcases Nat.lt_or_ge j n with h | h
                · exact hnn.out j g1 h
                · rw [show j = n from by omega]; exact hf.out, bel_alloc (bel_call hW.out hz) _⟩, by first | (simp [intOf]; omega) | simp [intOf]⟩
            · have q2 : (l.kind == 0) = false := beq_false_i h2
              by_cases h3 : l.char = char
              · have q3 : (l.char != char) = false := bne_false_i h3
                have hf : Hid (findN ⟨kind, char, true, false, false, text⟩ = some n) := (find_some_at 29 1 n hn1 (by omega) hnn.out (by rw [HL.out]; simp [fitsB, h1, h3]; rintro rfl; exact h2 h1) : findN ⟨kind, char, true, false, false, text⟩ = some n)
                clear h1 h2 h3
                go_wp2_with (first
                  | (go_at_call 58; (with_reducible refine (numbered_calls n _).mono ?_); rintro e wz ⟨rfl, hz⟩; rw [HL.out]; obtain ⟨hc', hf'⟩ := bcell hz; have klt2 := lt_next klt hz; unfold keyV)
                  | (go_at_call 41; (with_reducible refine (itN.out _).mono ?_); rintro e wy ⟨rfl, rfl⟩)
                  | (go_at_call 41; (with_reducible refine (itM.out _).mono ?_); rintro e wy ⟨rfl, rfl⟩))
                go_ret
                exact ⟨ret_s (by rw [seq_N hno2.out hf.out, number_n (m := 5) rfl (by decide), data_app, data_app, data_app, data_app, HEN.out, HDM.out]), bel_alloc (bel_call (bel_ca hW.out) hz) _⟩
              · have q3 : (l.char != char) = true := bne_true_i h3
                have hf : Hid (fitsB ⟨kind, char, true, false, false, text⟩ (numbered n) = false) := (by rw [HL.out]; simp [fitsB, h3] : fitsB ⟨kind, char, true, false, false, text⟩ (numbered n) = false)
                clear h1 h2 h3
                go_wp2_with (go_at_call 58; (with_reducible refine (numbered_calls n _).mono ?_); rintro e wz ⟨rfl, hz⟩; rw [HL.out]; obtain ⟨hc', hf'⟩ := bcell hz; have klt2 := lt_next klt hz; unfold keyV)
                exact ⟨⟨n + 1, by go_num, by omega, by omega, fun j g1 g2 => by
                  rcases Nat.lt_or_ge j n with h | h
                  · exact hnn.out j g1 h
                  · rw [show j = n from by omega]; exact hf.out, bel_alloc (bel_call hW.out hz) _⟩, by first | (simp [intOf]; omega) | simp [intOf]⟩
          · have q1 : (l.kind != kind) = true := bne_true_i h1
            have hf : Hid (fitsB ⟨kind, char, true, false, false, text⟩ (numbered n) = false) := (by rw [HL.out]; simp [fitsB, h1] : fitsB ⟨kind, char, true, false, false, text⟩ (numbered n) = false)
            clear h1
            go_wp2_with (go_at_call 58; (with_reducible refine (numbered_calls n _).mono ?_); rintro e wz ⟨rfl, hz⟩; rw [HL.out]; obtain ⟨hc', hf'⟩ := bcell hz; have klt2 := lt_next klt hz; unfold keyV)
            exact ⟨⟨n + 1, by go_num, by omega, by omega, fun j g1 g2 => by
              rcases Nat.lt_or_ge j n with h | h
              · exact hnn.out j g1 h
              · rw [show j = n from by omega]; exact hf.out, bel_alloc (bel_call hW.out hz) _⟩, by first | (simp [intOf]; omega) | simp [intOf]⟩
        · have hno3 : Hid (findN ⟨kind, char, true, false, false, text⟩ = none) := (find_none_to (fun j g1 g2 => hnn.out j g1 (by omega)) : findN ⟨kind, char, true, false, false, text⟩ = none)
          have hge : (30 : Int) ≤ n := by omega
          go_wp2
          go_ret
          exact ⟨ret_s (by rw [seq_0 hno2.out hno3.out]), (bel_ca hW.out)⟩
set_option maxHeartbeats 8000000 in
set_option maxRecDepth 1000000 in
theorem seq_6 (kind char : Int) (text : List UInt8) (w : World) : Calls Tryd.prog 39 #[keyV ⟨kind, char, true, false, true, text⟩] w fun e w' => e = .returned (.string ⟨(seqL ⟨kind, char, true, false, true, text⟩).toArray⟩) ∧ Below w.heap.size w w' := by
  unfold keyV
  simp only
  obtain ⟨D, hD⟩ : ∃ D : ByteArray, D = ⟨(Lib.decDigits 6).toArray⟩ := ⟨_, rfl⟩
  have itM0 : ∀ W, Calls Tryd.prog 41 #[.int .i64 6] W (fun e w' => e = .returned (.string D) ∧ w' = W) := fun W => by rw [hD]; exact itoa_calls 6 (by decide) W
  have itM := Lib.hid itM0
  have hMs : D.size ≤ 10 := by rw [hD, ← size_len]; exact dec_len (by decide)
  have HDM : Hid (D.data.toList = Lib.decDigits 6) := by show _ = _; rw [hD]
  clear itM0 hD
  go_enter Tryd.func39, Tryd.ntmps39
  go_wp2
  go_loopw [4] (fun v4 wr => ∃ b : Nat, v4 = .int .u8 b ∧ 65 ≤ b ∧ b ≤ 91 ∧ Hid (∀ j, 65 ≤ j → j < b → fitsB ⟨kind, char, true, false, true, text⟩ (lettered j) = false) ∧ Hid (Below (w.alloc (.cells #[.int .i64 kind, .int .i32 char, .bool true, .bool false, .bool true, .string ⟨text.toArray⟩] 50)).heap.size (w.alloc (.cells #[.int .i64 kind, .int .i32 char, .bool true, .bool false, .bool true, .string ⟨text.toArray⟩] 50)) wr)) (fun v4 _ => 91 - (intOf v4).toNat)
  case atStart => exact ⟨65, rfl, by omega, by omega, fun j h1 h2 => absurd h1 (by omega), Below.refl _ _⟩
  case round =>
    obtain ⟨b, rfl, hb65, hb91, hno, hW⟩ := hrel
    have k0 : wr.cell? ⟨w.heap.size, 0, none⟩ = some (.int .i64 kind) := blk_cell (blk_below (heap_alloc_new w (.cells #[.int .i64 kind, .int .i32 char, .bool true, .bool false, .bool true, .string ⟨text.toArray⟩] 50)) hW.out) 0
    have k1 : wr.cell? ⟨w.heap.size, 1, none⟩ = some (.int .i32 char) := blk_cell (blk_below (heap_alloc_new w (.cells #[.int .i64 kind, .int .i32 char, .bool true, .bool false, .bool true, .string ⟨text.toArray⟩] 50)) hW.out) 1
    have klt : w.heap.size < wr.heap.size := lt_alloc hW.out
    by_cases hlt : b ≤ 90
    · obtain ⟨l, hl⟩ : ∃ l, lettered b = l := ⟨_, rfl⟩
      have hbi : (b : Int) ≤ 90 := by omega
      have hbi2 : (65 : Int) ≤ b := by omega
      have hb256 : b < 256 := by omega
      obtain ⟨E, hE⟩ : ∃ E, Utf8.encode (b : Int) = E := ⟨_, rfl⟩
      have HE : Hid (E.data.toList = [UInt8.ofNat b]) := (by rw [← hE]; exact enc_byte (by omega) : E.data.toList = [UInt8.ofNat b])
      have hEs : E.size ≤ 10 := by rw [← size_len, HE.out]; simp
      have HL := Lib.hid hl
      clear hl
      by_cases h1 : l.kind = kind
      · have q1 : (l.kind != kind) = false := bne_false_i h1
        by_cases h2 : l.kind = 0
        · have q2 : (l.kind == 0) = true := beq_true_i h2
          have hf : Hid (fitsB ⟨kind, char, true, false, true, text⟩ (lettered b) = false) := (by rw [HL.out]; simp [fitsB, h2] : fitsB ⟨kind, char, true, false, true, text⟩ (lettered b) = false)
          clear h1 h2
          go_wp2_with (go_at_call 57; (with_reducible refine (lettered_calls b hb256 _).mono ?_); rintro e wz ⟨rfl, hz⟩; rw [HL.out]; obtain ⟨hc', hf'⟩ := bcell hz; have klt2 := lt_next klt hz; unfold keyV)
          exact ⟨⟨b + 1, by go_num, by omega, by omega, fun j g1 g2 => by
            rcases Nat.lt_or_ge j b with h | h
            · exact hno.out j g1 h
            · rw [show j = b from by omega]; exact hf.out, bel_alloc (bel_call hW.out hz) _⟩, by first | (simp [intOf]; omega) | simp [intOf]⟩
        · have q2 : (l.kind == 0) = false := beq_false_i h2
          by_cases h3 : l.char = char
          · have q3 : (l.char != char) = false := bne_false_i h3
            have hf : Hid (findL ⟨kind, char, true, false, true, text⟩ = some b) := (find_some_at 26 65 b hb65 (by omega) hno.out (by rw [HL.out]; simp [fitsB, h1, h3]; rintro rfl; exact h2 h1) : findL ⟨kind, char, true, false, true, text⟩ = some b)
            by_cases g15 : kind = 15
            · have q4 : (kind == 15) = true := beq_true_i g15
              clear h1 h2 h3 g15
              go_wp2_with (first
                | (go_at_call 57; (with_reducible refine (lettered_calls b hb256 _).mono ?_); rintro e wz ⟨rfl, hz⟩; rw [HL.out]; obtain ⟨hc', hf'⟩ := bcell hz; have klt2 := lt_next klt hz; unfold keyV)
                | (go_at_call 41; (with_reducible refine (itM.out _).mono ?_); rintro e wy ⟨rfl, rfl⟩))
              go_ret
              exact ⟨ret_s (by rw [seq_L hf.out, letter_n (m := 6) rfl (by decide) (.inr (by decide)), data_app, data_app, HE.out, HDM.out]), bel_alloc (bel_call (bel_ca hW.out) hz) _⟩
            · have q4 : (kind == 15) = false := beq_false_i g15
              clear h1 h2 h3 g15
              go_wp2_with (first
                | (go_at_call 57; (with_reducible refine (lettered_calls b hb256 _).mono ?_); rintro e wz ⟨rfl, hz⟩; rw [HL.out]; obtain ⟨hc', hf'⟩ := bcell hz; have klt2 := lt_next klt hz; unfold keyV)
                | (go_at_call 41; (with_reducible refine (itM.out _).mono ?_); rintro e wy ⟨rfl, rfl⟩))
              go_ret
              exact ⟨ret_s (by rw [seq_L hf.out, letter_n (m := 6) rfl (by decide) (.inr (by decide)), data_app, data_app, HE.out, HDM.out]), bel_alloc (bel_call (bel_ca hW.out) hz) _⟩
          · have q3 : (l.char != char) = true := bne_true_i h3
            have hf : Hid (fitsB ⟨kind, char, true, false, true, text⟩ (lettered b) = false) := (by rw [HL.out]; simp [fitsB, h3] : fitsB ⟨kind, char, true, false, true, text⟩ (lettered b) = false)
            clear h1 h2 h3
            go_wp2_with (go_at_call 57; (with_reducible refine (lettered_calls b hb256 _).mono ?_); rintro e wz ⟨rfl, hz⟩; rw [HL.out]; obtain ⟨hc', hf'⟩ := bcell hz; have klt2 := lt_next klt hz; unfold keyV)
            exact ⟨⟨b + 1, by go_num, by omega, by omega, fun j g1 g2 => by
              rcases Nat.lt_or_ge j b with h | h
              · exact hno.out j g1 h
              · rw [show j = b from by omega]; exact hf.out, bel_alloc (bel_call hW.out hz) _⟩, by first | (simp [intOf]; omega) | simp [intOf]⟩
      · have q1 : (l.kind != kind) = true := bne_true_i h1
        have hf : Hid (fitsB ⟨kind, char, true, false, true, text⟩ (lettered b) = false) := (by rw [HL.out]; simp [fitsB, h1] : fitsB ⟨kind, char, true, false, true, text⟩ (lettered b) = false)
        clear h1
        go_wp2_with (go_at_call 57; (with_reducible refine (lettered_calls b hb256 _).mono ?_); rintro e wz ⟨rfl, hz⟩; rw [HL.out]; obtain ⟨hc', hf'⟩ := bcell hz; have klt2 := lt_next klt hz; unfold keyV)
        exact ⟨⟨b + 1, by go_num, by omega, by omega, fun j g1 g2 => by
          rcases Nat.lt_or_ge j b with h | h
          · exact hno.out j g1 h
          · rw [show j = b from by omega]; exact hf.out, bel_alloc (bel_call hW.out hz) _⟩, by first | (simp [intOf]; omega) | simp [intOf]⟩
    · have hno2 : Hid (findL ⟨kind, char, true, false, true, text⟩ = none) := (find_none_to (fun j g1 g2 => hno.out j g1 (by omega)) : findL ⟨kind, char, true, false, true, text⟩ = none)
      have hge : (91 : Int) ≤ b := by omega
      clear hlt hno k0 k1 klt
      obtain ⟨wo, hwo⟩ : ∃ wo, wo = wr := ⟨_, rfl⟩
      subst hwo
      go_wp2
      go_loopw [6] (fun v6 ws => ∃ n : Nat, v6 = .int .i64 n ∧ 1 ≤ n ∧ n ≤ 30 ∧ Hid (∀ j, 1 ≤ j → j < n → fitsB ⟨kind, char, true, false, true, text⟩ (numbered j) = false) ∧ Hid (Below (w.alloc (.cells #[.int .i64 kind, .int .i32 char, .bool true, .bool false, .bool true, .string ⟨text.toArray⟩] 50)).heap.size (w.alloc (.cells #[.int .i64 kind, .int .i32 char, .bool true, .bool false, .bool true, .string ⟨text.toArray⟩] 50)) ws)) (fun v6 _ => 30 - (intOf v6).toNat)
      case atStart => exact ⟨1, rfl, by omega, by omega, fun j h1 h2 => absurd h1 (by omega), hW.out⟩
      case round =>
        clear hW hb65 hb91 hge
        rename_i wr2 _
        obtain ⟨n, rfl, hn1, hn30, hnn, hW⟩ := hrel
        have k0 : wr.cell? ⟨w.heap.size, 0, none⟩ = some (.int .i64 kind) := blk_cell (blk_below (heap_alloc_new w (.cells #[.int .i64 kind, .int .i32 char, .bool true, .bool false, .bool true, .string ⟨text.toArray⟩] 50)) hW.out) 0
        have k1 : wr.cell? ⟨w.heap.size, 1, none⟩ = some (.int .i32 char) := blk_cell (blk_below (heap_alloc_new w (.cells #[.int .i64 kind, .int .i32 char, .bool true, .bool false, .bool true, .string ⟨text.toArray⟩] 50)) hW.out) 1
        have klt : w.heap.size < wr.heap.size := lt_alloc hW.out
        by_cases hlt : n < 30
        · obtain ⟨l, hl⟩ : ∃ l, numbered n = l := ⟨_, rfl⟩
          have hni : (n : Int) < 30 := by omega
          have hn100 : n < 100 := by omega
          obtain ⟨E, hE⟩ : ∃ E : ByteArray, E = ⟨(Lib.decDigits n).toArray⟩ := ⟨_, rfl⟩
          have itN0 : ∀ W, Calls Tryd.prog 41 #[.int .i64 n] W (fun e w' => e = .returned (.string E) ∧ w' = W) := fun W => by rw [hE]; exact itoa_calls n hn100 W
          have itN := Lib.hid itN0
          have hNs : E.size ≤ 10 := by rw [hE, ← size_len]; exact dec_len hn100
          have HEN : Hid (E.data.toList = Lib.decDigits n) := by show _ = _; rw [hE]
          clear itN0 hE
          have HL := Lib.hid hl
          clear hl
          by_cases h1 : l.kind = kind
          · have q1 : (l.kind != kind) = false := bne_false_i h1
            by_cases h2 : l.kind = 0
            · have q2 : (l.kind == 0) = true := beq_true_i h2
              have hf : Hid (fitsB ⟨kind, char, true, false, true, text⟩ (numbered n) = false) := (by rw [HL.out]; simp [fitsB, h2] : fitsB ⟨kind, char, true, false, true, text⟩ (numbered n) = false)
              clear h1 h2
              go_wp2_with (go_at_call 58; (with_reducible refine (numbered_calls n _).mono ?_); rintro e wz ⟨rfl, hz⟩; rw [HL.out]; obtain ⟨hc', hf'⟩ := bcell hz; have klt2 := lt_next klt hz; unfold keyV)
              exact ⟨⟨n + 1, by go_num, by omega, by omega, fun j g1 g2 => by
                rcases Nat.lt_or_ge j n with h | h
                · exact hnn.out j g1 h
                · rw [show j = n from by omega]; exact hf.out, bel_alloc (bel_call hW.out hz) _⟩, by first | (simp [intOf]; omega) | simp [intOf]⟩
            · have q2 : (l.kind == 0) = false := beq_false_i h2
              by_cases h3 : l.char = char
              · have q3 : (l.char != char) = false := bne_false_i h3
                have hf : Hid (findN ⟨kind, char, true, false, true, text⟩ = some n) := (find_some_at 29 1 n hn1 (by omega) hnn.out (by rw [HL.out]; simp [fitsB, h1, h3]; rintro rfl; exact h2 h1) : findN ⟨kind, char, true, false, true, text⟩ = some n)
                clear h1 h2 h3
                go_wp2_with (first
                  | (go_at_call 58; (with_reducible refine (numbered_calls n _).mono ?_); rintro e wz ⟨rfl, hz⟩; rw [HL.out]; obtain ⟨hc', hf'⟩ := bcell hz; have klt2 := lt_next klt hz; unfold keyV)
                  | (go_at_call 41; (with_reducible refine (itN.out _).mono ?_); rintro e wy ⟨rfl, rfl⟩)
                  | (go_at_call 41; (with_reducible refine (itM.out _).mono ?_); rintro e wy ⟨rfl, rfl⟩))
                go_ret
                exact ⟨ret_s (by rw [seq_N hno2.out hf.out, number_n (m := 6) rfl (by decide), data_app, data_app, data_app, data_app, HEN.out, HDM.out]), bel_alloc (bel_call (bel_ca hW.out) hz) _⟩
              · have q3 : (l.char != char) = true := bne_true_i h3
                have hf : Hid (fitsB ⟨kind, char, true, false, true, text⟩ (numbered n) = false) := (by rw [HL.out]; simp [fitsB, h3] : fitsB ⟨kind, char, true, false, true, text⟩ (numbered n) = false)
                clear h1 h2 h3
                go_wp2_with (go_at_call 58; (with_reducible refine (numbered_calls n _).mono ?_); rintro e wz ⟨rfl, hz⟩; rw [HL.out]; obtain ⟨hc', hf'⟩ := bcell hz; have klt2 := lt_next klt hz; unfold keyV)
                exact ⟨⟨n + 1, by go_num, by omega, by omega, fun j g1 g2 => by
                  rcases Nat.lt_or_ge j n with h | h
                  · exact hnn.out j g1 h
                  · rw [show j = n from by omega]; exact hf.out, bel_alloc (bel_call hW.out hz) _⟩, by first | (simp [intOf]; omega) | simp [intOf]⟩
          · have q1 : (l.kind != kind) = true := bne_true_i h1
            have hf : Hid (fitsB ⟨kind, char, true, false, true, text⟩ (numbered n) = false) := (by rw [HL.out]; simp [fitsB, h1] : fitsB ⟨kind, char, true, false, true, text⟩ (numbered n) = false)
            clear h1
            go_wp2_with (go_at_call 58; (with_reducible refine (numbered_calls n _).mono ?_); rintro e wz ⟨rfl, hz⟩; rw [HL.out]; obtain ⟨hc', hf'⟩ := bcell hz; have klt2 := lt_next klt hz; unfold keyV)
            exact ⟨⟨n + 1, by go_num, by omega, by omega, fun j g1 g2 => by
              rcases Nat.lt_or_ge j n with h | h
              · exact hnn.out j g1 h
              · rw [show j = n from by omega]; exact hf.out, bel_alloc (bel_call hW.out hz) _⟩, by first | (simp [intOf]; omega) | simp [intOf]⟩
        · have hno3 : Hid (findN ⟨kind, char, true, false, true, text⟩ = none) := (find_none_to (fun j g1 g2 => hnn.out j g1 (by omega)) : findN ⟨kind, char, true, false, true, text⟩ = none)
          have hge : (30 : Int) ≤ n := by omega
          go_wp2
          go_ret
          exact ⟨ret_s (by rw [seq_0 hno2.out hno3.out]), (bel_ca hW.out)⟩
end Go.Proofs.YtjjilhfebkeoeaaDoor.Ky
/- sequence: its eight walks (gen/gen_sequence.py printed them). -/
namespace Go.Proofs.YtjjilhfebkeoeaaDoor.Ky
open Go Go.RowKit Go.Proofs.YtjjilhfebkeoeaaDoor.PKy
open Go.Proofs.YtjjilhfebkeoeaaDoorW.PrintWords (bt rdOf Kd Drawn0 Reps Aside0)
open Go.Proofs.YtjjilhfebkeoeaaDoor.Wk (string_of_own bcell bel_drew bel_drewN bel_alloc bel_set bel_call size_len mk_data beq_true_i bne_true_i bne_false_i beq_false_i drop_cons var_below blk_alloc blk_below blk_drewN blk_cell blk_frozen blk_far blk_set blk_lt own_slice own_below cells_new)
set_option linter.unusedVariables false
set_option linter.unusedSimpArgs false


set_option maxHeartbeats 8000000 in
set_option maxRecDepth 1000000 in
theorem seq_7 (kind char : Int) (text : List UInt8) (w : World) : Calls Tryd.prog 39 #[keyV ⟨kind, char, true, true, false, text⟩] w fun e w' => e = .returned (.string ⟨(seqL ⟨kind, char, true, true, false, text⟩).toArray⟩) ∧ Below w.heap.size w w' := by
  unfold keyV
  simp only
  obtain ⟨D, hD⟩ : ∃ D : ByteArray, D = ⟨(Lib.decDigits 7).toArray⟩ := ⟨_, rfl⟩
  have itM0 : ∀ W, Calls Tryd.prog 41 #[.int .i64 7] W (fun e w' => e = .returned (.string D) ∧ w' = W) := fun W => by rw [hD]; exact itoa_calls 7 (by decide) W
  have itM := Lib.hid itM0
  have hMs : D.size ≤ 10 := by rw [hD, ← size_len]; exact dec_len (by decide)
  have HDM : Hid (D.data.toList = Lib.decDigits 7) := by show _ = _; rw [hD]
  clear itM0 hD
  go_enter Tryd.func39, Tryd.ntmps39
  go_wp2
  go_loopw [4] (fun v4 wr => ∃ b : Nat, v4 = .int .u8 b ∧ 65 ≤ b ∧ b ≤ 91 ∧ Hid (∀ j, 65 ≤ j → j < b → fitsB ⟨kind, char, true, true, false, text⟩ (lettered j) = false) ∧ Hid (Below (w.alloc (.cells #[.int .i64 kind, .int .i32 char, .bool true, .bool true, .bool false, .string ⟨text.toArray⟩] 50)).heap.size (w.alloc (.cells #[.int .i64 kind, .int .i32 char, .bool true, .bool true, .bool false, .string ⟨text.toArray⟩] 50)) wr)) (fun v4 _ => 91 - (intOf v4).toNat)
  case atStart => exact ⟨65, rfl, by omega, by omega, fun j h1 h2 => absurd h1 (by omega), Below.refl _ _⟩
  case round =>
    obtain ⟨b, rfl, hb65, hb91, hno, hW⟩ := hrel
    have k0 : wr.cell? ⟨w.heap.size, 0, none⟩ = some (.int .i64 kind) := blk_cell (blk_below (heap_alloc_new w (.cells #[.int .i64 kind, .int .i32 char, .bool true, .bool true, .bool false, .string ⟨text.toArray⟩] 50)) hW.out) 0
    have k1 : wr.cell? ⟨w.heap.size, 1, none⟩ = some (.int .i32 char) := blk_cell (blk_below (heap_alloc_new w (.cells #[.int .i64 kind, .int .i32 char, .bool true, .bool true, .bool false, .string ⟨text.toArray⟩] 50)) hW.out) 1
    have klt : w.heap.size < wr.heap.size := lt_alloc hW.out
    by_cases hlt : b ≤ 90
    · obtain ⟨l, hl⟩ : ∃ l, lettered b = l := ⟨_, rfl⟩
      have hbi : (b : Int) ≤ 90 := by omega
      have hbi2 : (65 : Int) ≤ b := by omega
      have hb256 : b < 256 := by omega
      obtain ⟨E, hE⟩ : ∃ E, Utf8.encode (b : Int) = E := ⟨_, rfl⟩
      have HE : Hid (E.data.toList = [UInt8.ofNat b]) := (by rw [← hE]; exact enc_byte (by omega) : E.data.toList = [UInt8.ofNat b])
      have hEs : E.size ≤ 10 := by rw [← size_len, HE.out]; simp
      have HL := Lib.hid hl
      clear hl
      by_cases h1 : l.kind = kind
      · have q1 : (l.kind != kind) = false := bne_false_i h1
        by_cases h2 : l.kind = 0
        · have q2 : (l.kind == 0) = true := beq_true_i h2
          have hf : Hid (fitsB ⟨kind, char, true, true, false, text⟩ (lettered b) = false) := (by rw [HL.out]; simp [fitsB, h2] : fitsB ⟨kind, char, true, true, false, text⟩ (lettered b) = false)
          clear h1 h2
          go_wp2_with (go_at_call 57; (with_reducible refine (lettered_calls b hb256 _).mono ?_); rintro e wz ⟨rfl, hz⟩; rw [HL.out]; obtain ⟨hc', hf'⟩ := bcell hz; have klt2 := lt_next klt hz; unfold keyV)
          exact ⟨⟨b + 1, by go_num, by omega, by omega, fun j g1 g2 => by
            rcases Nat.lt_or_ge j b with h | h
            · exact hno.out j g1 h
            · rw [show j = b from by omega]; exact hf.out, bel_alloc (bel_call hW.out hz) _⟩, by first | (simp [intOf]; omega) | simp [intOf]⟩
        · have q2 : (l.kind == 0) = false := beq_false_i h2
          by_cases h3 : l.char = char
          · have q3 : (l.char != char) = false := bne_false_i h3
            have hf : Hid (findL ⟨kind, char, true, true, false, text⟩ = some b) := (find_some_at 26 65 b hb65 (by omega) hno.out (by rw [HL.out]; simp [fitsB, h1, h3]; rintro rfl; exact h2 h1) : findL ⟨kind, char, true, true, false, text⟩ = some b)
            by_cases g15 : kind = 15
            · have q4 : (kind == 15) = true := beq_true_i g15
              clear h1 h2 h3 g15
              go_wp2_with (first
                | (go_at_call 57; (with_reducible refine (lettered_calls b hb256 _).mono ?_); rintro e wz ⟨rfl, hz⟩; rw [HL.out]; obtain ⟨hc', hf'⟩ := bcell hz; have klt2 := lt_next klt hz; unfold keyV)
                | (go_at_call 41; (with_reducible refine (itM.out _).mono ?_); rintro e wy ⟨rfl, rfl⟩))
              go_ret
              exact ⟨ret_s (by rw [seq_L hf.out, letter_n (m := 7) rfl (by decide) (.inr (by decide)), data_app, data_app, HE.out, HDM.out]), bel_alloc (bel_call (bel_ca hW.out) hz) _⟩
            · have q4 : (kind == 15) = false := beq_false_i g15
              clear h1 h2 h3 g15
              go_wp2_with (first
                | (go_at_call 57; (with_reducible refine (lettered_calls b hb256 _).mono ?_); rintro e wz ⟨rfl, hz⟩; rw [HL.out]; obtain ⟨hc', hf'⟩ := bcell hz; have klt2 := lt_next klt hz; unfold keyV)
                | (go_at_call 41; (with_reducible refine (itM.out _).mono ?_); rintro e wy ⟨rfl, rfl⟩))
              go_ret
              exact ⟨ret_s (by rw [seq_L hf.out, letter_n (m := 7) rfl (by decide) (.inr (by decide)), data_app, data_app, HE.out, HDM.out]), bel_alloc (bel_call (bel_ca hW.out) hz) _⟩
          · have q3 : (l.char != char) = true := bne_true_i h3
            have hf : Hid (fitsB ⟨kind, char, true, true, false, text⟩ (lettered b) = false) := (by rw [HL.out]; simp [fitsB, h3] : fitsB ⟨kind, char, true, true, false, text⟩ (lettered b) = false)
            clear h1 h2 h3
            go_wp2_with (go_at_call 57; (with_reducible refine (lettered_calls b hb256 _).mono ?_); rintro e wz ⟨rfl, hz⟩; rw [HL.out]; obtain ⟨hc', hf'⟩ := bcell hz; have klt2 := lt_next klt hz; unfold keyV)
            exact ⟨⟨b + 1, by go_num, by omega, by omega, fun j g1 g2 => by
              rcases Nat.lt_or_ge j b with h | h
              · exact hno.out j g1 h
              · rw [show j = b from by omega]; exact hf.out, bel_alloc (bel_call hW.out hz) _⟩, by first | (simp [intOf]; omega) | simp [intOf]⟩
      · have q1 : (l.kind != kind) = true := bne_true_i h1
        have hf : Hid (fitsB ⟨kind, char, true, true, false, text⟩ (lettered b) = false) := (by rw [HL.out]; simp [fitsB, h1] : fitsB ⟨kind, char, true, true, false, text⟩ (lettered b) = false)
        clear h1
        go_wp2_with (go_at_call 57; (with_reducible refine (lettered_calls b hb256 _).mono ?_); rintro e wz ⟨rfl, hz⟩; rw [HL.out]; obtain ⟨hc', hf'⟩ := bcell hz; have klt2 := lt_next klt hz; unfold keyV)
        exact ⟨⟨b + 1, by go_num, by omega, by omega, fun j g1 g2 => by
          rcases Nat.lt_or_ge j b with h | h
          · exact hno.out j g1 h
          · rw [show j = b from by omega]; exact hf.out, bel_alloc (bel_call hW.out hz) _⟩, by first | (simp [intOf]; omega) | simp [intOf]⟩
    · have hno2 : Hid (findL ⟨kind, char, true, true, false, text⟩ = none) := (find_none_to (fun j g1 g2 => hno.out j g1 (by omega)) : findL ⟨kind, char, true, true, false, text⟩ = none)
      have hge : (91 : Int) ≤ b := by omega
      clear hlt hno k0 k1 klt
      obtain ⟨wo, hwo⟩ : ∃ wo, wo = wr := ⟨_, rfl⟩
      subst hwo
      go_wp2
      go_loopw [6] (fun v6 ws => ∃ n : Nat, v6 = .int .i64 n ∧ 1 ≤ n ∧ n ≤ 30 ∧ Hid (∀ j, 1 ≤ j → j < n → fitsB ⟨kind, char, true, true, false, text⟩ (numbered j) = false) ∧ Hid (Below (w.alloc (.cells #[.int .i64 kind, .int .i32 char, .bool true, .bool true, .bool false, .string ⟨text.toArray⟩] 50)).heap.size (w.alloc (.cells #[.int .i64 kind, .int .i32 char, .bool true, .bool true, .bool false, .string ⟨text.toArray⟩] 50)) ws)) (fun v6 _ => 30 - (intOf v6).toNat)
      case atStart => exact ⟨1, rfl, by omega, by omega, fun j h1 h2 => absurd h1 (by omega), hW.out⟩
      case round =>
        clear hW hb65 hb91 hge
        rename_i wr2 _
        obtain ⟨n, rfl, hn1, hn30, hnn, hW⟩ := hrel
        have k0 : wr.cell? ⟨w.heap.size, 0, none⟩ = some (.int .i64 kind) := blk_cell (blk_below (heap_alloc_new w (.cells #[.int .i64 kind, .int .i32 char, .bool true, .bool true, .bool false, .string ⟨text.toArray⟩] 50)) hW.out) 0
        have k1 : wr.cell? ⟨w.heap.size, 1, none⟩ = some (.int .i32 char) := blk_cell (blk_below (heap_alloc_new w (.cells #[.int .i64 kind, .int .i32 char, .bool true, .bool true, .bool false, .string ⟨text.toArray⟩] 50)) hW.out) 1
        have klt : w.heap.size < wr.heap.size := lt_alloc hW.out
        by_cases hlt : n < 30
        · obtain ⟨l, hl⟩ : ∃ l, numbered n = l := ⟨_, rfl⟩
          have hni : (n : Int) < 30 := by omega
          have hn100 : n < 100 := by omega
          obtain ⟨E, hE⟩ : ∃ E : ByteArray, E = ⟨(Lib.decDigits n).toArray⟩ := ⟨_, rfl⟩
          have itN0 : ∀ W, Calls Tryd.prog 41 #[.int .i64 n] W (fun e w' => e = .returned (.string E) ∧ w' = W) := fun W => by rw [hE]; exact itoa_calls n hn100 W
          have itN := Lib.hid itN0
          have hNs : E.size ≤ 10 := by rw [hE, ← size_len]; exact dec_len hn100
          have HEN : Hid (E.data.toList = Lib.decDigits n) := by show _ = _; rw [hE]
          clear itN0 hE
          have HL := Lib.hid hl
          clear hl
          by_cases h1 : l.kind = kind
          · have q1 : (l.kind != kind) = false := bne_false_i h1
            by_cases h2 : l.kind = 0
            · have q2 : (l.kind == 0) = true := beq_true_i h2
              have hf : Hid (fitsB ⟨kind, char, true, true, false, text⟩ (numbered n) = false) := (by rw [HL.out]; simp [fitsB, h2] : fitsB ⟨kind, char, true, true, false, text⟩ (numbered n) = false)
              clear h1 h2
              go_wp2_with (go_at_call 58; (with_reducible refine (numbered_calls n _).mono ?_); rintro e wz ⟨rfl, hz⟩; rw [HL.out]; obtain ⟨hc', hf'⟩ := bcell hz; have klt2 := lt_next klt hz; unfold keyV)
              exact ⟨⟨n + 1, by go_num, by omega, by omega, fun j g1 g2 => by
                rcases Nat.lt_or_ge j n with h | h
                · exact hnn.out j g1 h
                · rw [show j = n from by omega]; exact hf.out, bel_alloc (bel_call hW.out hz) _⟩, by first | (simp [intOf]; omega) | simp [intOf]⟩
            · have q2 : (l.kind == 0) = false := beq_false_i h2
              by_cases h3 : l.char = char
              · have q3 : (l.char != char) = false := bne_false_i h3
                have hf : Hid (findN ⟨kind, char, true, true, false, text⟩ = some n) := (find_some_at 29 1 n hn1 (by omega) hnn.out (by rw [HL.out]; simp [fitsB, h1, h3]; rintro rfl; exact h2 h1) : findN ⟨kind, char, true, true, false, text⟩ = some n)
                clear h1 h2 h3
                go_wp2_with (first
                  | (go_at_call 58; (with_reducible refine (numbered_calls n _).mono ?_); rintro e wz ⟨rfl, hz⟩; rw [HL.out]; obtain ⟨hc', hf'⟩ := bcell hz; have klt2 := lt_next klt hz; unfold keyV)
                  | (go_at_call 41; (with_reducible refine (itN.out _).mono ?_); rintro e wy ⟨rfl, rfl⟩)
                  | (go_at_call 41; (with_reducible refine (itM.out _).mono ?_); rintro e wy ⟨rfl, rfl⟩))
                go_ret
                exact ⟨ret_s (by rw [seq_N hno2.out hf.out, number_n (m := 7) rfl (by decide), data_app, data_app, data_app, data_app, HEN.out, HDM.out]), bel_alloc (bel_call (bel_ca hW.out) hz) _⟩
              · have q3 : (l.char != char) = true := bne_true_i h3
                have hf : Hid (fitsB ⟨kind, char, true, true, false, text⟩ (numbered n) = false) := (by rw [HL.out]; simp [fitsB, h3] : fitsB ⟨kind, char, true, true, false, text⟩ (numbered n) = false)
                clear h1 h2 h3
                go_wp2_with (go_at_call 58; (with_reducible refine (numbered_calls n _).mono ?_); rintro e wz ⟨rfl, hz⟩; rw [HL.out]; obtain ⟨hc', hf'⟩ := bcell hz; have klt2 := lt_next klt hz; unfold keyV)
                exact ⟨⟨n + 1, by go_num, by omega, by omega, fun j g1 g2 => by
                  rcases Nat.lt_or_ge j n with h | h
                  · exact hnn.out j g1 h
                  · rw [show j = n from by omega]; exact hf.out, bel_alloc (bel_call hW.out hz) _⟩, by first | (simp [intOf]; omega) | simp [intOf]⟩
          · have q1 : (l.kind != kind) = true := bne_true_i h1
            have hf : Hid (fitsB ⟨kind, char, true, true, false, text⟩ (numbered n) = false) := (by rw [HL.out]; simp [fitsB, h1] : fitsB ⟨kind, char, true, true, false, text⟩ (numbered n) = false)
            clear h1
            go_wp2_with (go_at_call 58; (with_reducible refine (numbered_calls n _).mono ?_); rintro e wz ⟨rfl, hz⟩; rw [HL.out]; obtain ⟨hc', hf'⟩ := bcell hz; have klt2 := lt_next klt hz; unfold keyV)
            exact ⟨⟨n + 1, by go_num, by omega, by omega, fun j g1 g2 => by
              rcases Nat.lt_or_ge j n with h | h
              · exact hnn.out j g1 h
              · rw [show j = n from by omega]; exact hf.out, bel_alloc (bel_call hW.out hz) _⟩, by first | (simp [intOf]; omega) | simp [intOf]⟩
        · have hno3 : Hid (findN ⟨kind, char, true, true, false, text⟩ = none) := (find_none_to (fun j g1 g2 => hnn.out j g1 (by omega)) : findN ⟨kind, char, true, true, false, text⟩ = none)
          have hge : (30 : Int) ≤ n := by omega
          go_wp2
          go_ret
          exact ⟨ret_s (by rw [seq_0 hno2.out hno3.out]), (bel_ca hW.out)⟩
set_option maxHeartbeats 8000000 in
set_option maxRecDepth 1000000 in
theorem seq_8 (kind char : Int) (text : List UInt8) (w : World) : Calls Tryd.prog 39 #[keyV ⟨kind, char, true, true, true, text⟩] w fun e w' => e = .returned (.string ⟨(seqL ⟨kind, char, true, true, true, text⟩).toArray⟩) ∧ Below w.heap.size w w' := by
  unfold keyV
  simp only
  obtain ⟨D, hD⟩ : ∃ D : ByteArray, D = ⟨(Lib.decDigits 8).toArray⟩ := ⟨_, rfl⟩
  have itM0 : ∀ W, Calls Tryd.prog 41 #[.int .i64 8] W (fun e w' => e = .returned (.string D) ∧ w' = W) := fun W => by rw [hD]; exact itoa_calls 8 (by decide) W
  have itM := Lib.hid itM0
  have hMs : D.size ≤ 10 := by rw [hD, ← size_len]; exact dec_len (by decide)
  have HDM : Hid (D.data.toList = Lib.decDigits 8) := by show _ = _; rw [hD]
  clear itM0 hD
  go_enter Tryd.func39, Tryd.ntmps39
  go_wp2
  go_loopw [4] (fun v4 wr => ∃ b : Nat, v4 = .int .u8 b ∧ 65 ≤ b ∧ b ≤ 91 ∧ Hid (∀ j, 65 ≤ j → j < b → fitsB ⟨kind, char, true, true, true, text⟩ (lettered j) = false) ∧ Hid (Below (w.alloc (.cells #[.int .i64 kind, .int .i32 char, .bool true, .bool true, .bool true, .string ⟨text.toArray⟩] 50)).heap.size (w.alloc (.cells #[.int .i64 kind, .int .i32 char, .bool true, .bool true, .bool true, .string ⟨text.toArray⟩] 50)) wr)) (fun v4 _ => 91 - (intOf v4).toNat)
  case atStart => exact ⟨65, rfl, by omega, by omega, fun j h1 h2 => absurd h1 (by omega), Below.refl _ _⟩
  case round =>
    obtain ⟨b, rfl, hb65, hb91, hno, hW⟩ := hrel
    have k0 : wr.cell? ⟨w.heap.size, 0, none⟩ = some (.int .i64 kind) := blk_cell (blk_below (heap_alloc_new w (.cells #[.int .i64 kind, .int .i32 char, .bool true, .bool true, .bool true, .string ⟨text.toArray⟩] 50)) hW.out) 0
    have k1 : wr.cell? ⟨w.heap.size, 1, none⟩ = some (.int .i32 char) := blk_cell (blk_below (heap_alloc_new w (.cells #[.int .i64 kind, .int .i32 char, .bool true, .bool true, .bool true, .string ⟨text.toArray⟩] 50)) hW.out) 1
    have klt : w.heap.size < wr.heap.size := lt_alloc hW.out
    by_cases hlt : b ≤ 90
    · obtain ⟨l, hl⟩ : ∃ l, lettered b = l := ⟨_, rfl⟩
      have hbi : (b : Int) ≤ 90 := by omega
      have hbi2 : (65 : Int) ≤ b := by omega
      have hb256 : b < 256 := by omega
      obtain ⟨E, hE⟩ : ∃ E, Utf8.encode (b : Int) = E := ⟨_, rfl⟩
      have HE : Hid (E.data.toList = [UInt8.ofNat b]) := (by rw [← hE]; exact enc_byte (by omega) : E.data.toList = [UInt8.ofNat b])
      have hEs : E.size ≤ 10 := by rw [← size_len, HE.out]; simp
      have HL := Lib.hid hl
      clear hl
      by_cases h1 : l.kind = kind
      · have q1 : (l.kind != kind) = false := bne_false_i h1
        by_cases h2 : l.kind = 0
        · have q2 : (l.kind == 0) = true := beq_true_i h2
          have hf : Hid (fitsB ⟨kind, char, true, true, true, text⟩ (lettered b) = false) := (by rw [HL.out]; simp [fitsB, h2] : fitsB ⟨kind, char, true, true, true, text⟩ (lettered b) = false)
          clear h1 h2
          go_wp2_with (go_at_call 57; (with_reducible refine (lettered_calls b hb256 _).mono ?_); rintro e wz ⟨rfl, hz⟩; rw [HL.out]; obtain ⟨hc', hf'⟩ := bcell hz; have klt2 := lt_next klt hz; unfold keyV)
          exact ⟨⟨b + 1, by go_num, by omega, by omega, fun j g1 g2 => by
            rcases Nat.lt_or_ge j b with h | h
            · exact hno.out j g1 h
            · rw [show j = b from by omega]; exact hf.out, bel_alloc (bel_call hW.out hz) _⟩, by first | (simp [intOf]; omega) | simp [intOf]⟩
        · have q2 : (l.kind == 0) = false := beq_false_i h2
          by_cases h3 : l.char = char
          · have q3 : (l.char != char) = false := bne_false_i h3
            have hf : Hid (findL ⟨kind, char, true, true, true, text⟩ = some b) := (find_some_at 26 65 b hb65 (by omega) hno.out (by rw [HL.out]; simp [fitsB, h1, h3]; rintro rfl; exact h2 h1) : findL ⟨kind, char, true, true, true, text⟩ = some b)
            by_cases g15 : kind = 15
            · have q4 : (kind == 15) = true := beq_true_i g15
              clear h1 h2 h3 g15
              go_wp2_with (first
                | (go_at_call 57; (with_reducible refine (lettered_calls b hb256 _).mono ?_); rintro e wz ⟨rfl, hz⟩; rw [HL.out]; obtain ⟨hc', hf'⟩ := bcell hz; have klt2 := lt_next klt hz; unfold keyV)
                | (go_at_call 41; (with_reducible refine (itM.out _).mono ?_); rintro e wy ⟨rfl, rfl⟩))
              go_ret
              exact ⟨ret_s (by rw [seq_L hf.out, letter_n (m := 8) rfl (by decide) (.inr (by decide)), data_app, data_app, HE.out, HDM.out]), bel_alloc (bel_call (bel_ca hW.out) hz) _⟩
            · have q4 : (kind == 15) = false := beq_false_i g15
              clear h1 h2 h3 g15
              go_wp2_with (first
                | (go_at_call 57; (with_reducible refine (lettered_calls b hb256 _).mono ?_); rintro e wz ⟨rfl, hz⟩; rw [HL.out]; obtain ⟨hc', hf'⟩ := bcell hz; have klt2 := lt_next klt hz; unfold keyV)
                | (go_at_call 41; (with_reducible refine (itM.out _).mono ?_); rintro e wy ⟨rfl, rfl⟩))
              go_ret
              exact ⟨ret_s (by rw [seq_L hf.out, letter_n (m := 8) rfl (by decide) (.inr (by decide)), data_app, data_app, HE.out, HDM.out]), bel_alloc (bel_call (bel_ca hW.out) hz) _⟩
          · have q3 : (l.char != char) = true := bne_true_i h3
            have hf : Hid (fitsB ⟨kind, char, true, true, true, text⟩ (lettered b) = false) := (by rw [HL.out]; simp [fitsB, h3] : fitsB ⟨kind, char, true, true, true, text⟩ (lettered b) = false)
            clear h1 h2 h3
            go_wp2_with (go_at_call 57; (with_reducible refine (lettered_calls b hb256 _).mono ?_); rintro e wz ⟨rfl, hz⟩; rw [HL.out]; obtain ⟨hc', hf'⟩ := bcell hz; have klt2 := lt_next klt hz; unfold keyV)
            exact ⟨⟨b + 1, by go_num, by omega, by omega, fun j g1 g2 => by
              rcases Nat.lt_or_ge j b with h | h
              · exact hno.out j g1 h
              · rw [show j = b from by omega]; exact hf.out, bel_alloc (bel_call hW.out hz) _⟩, by first | (simp [intOf]; omega) | simp [intOf]⟩
      · have q1 : (l.kind != kind) = true := bne_true_i h1
        have hf : Hid (fitsB ⟨kind, char, true, true, true, text⟩ (lettered b) = false) := (by rw [HL.out]; simp [fitsB, h1] : fitsB ⟨kind, char, true, true, true, text⟩ (lettered b) = false)
        clear h1
        go_wp2_with (go_at_call 57; (with_reducible refine (lettered_calls b hb256 _).mono ?_); rintro e wz ⟨rfl, hz⟩; rw [HL.out]; obtain ⟨hc', hf'⟩ := bcell hz; have klt2 := lt_next klt hz; unfold keyV)
        exact ⟨⟨b + 1, by go_num, by omega, by omega, fun j g1 g2 => by
          rcases Nat.lt_or_ge j b with h | h
          · exact hno.out j g1 h
          · rw [show j = b from by omega]; exact hf.out, bel_alloc (bel_call hW.out hz) _⟩, by first | (simp [intOf]; omega) | simp [intOf]⟩
    · have hno2 : Hid (findL ⟨kind, char, true, true, true, text⟩ = none) := (find_none_to (fun j g1 g2 => hno.out j g1 (by omega)) : findL ⟨kind, char, true, true, true, text⟩ = none)
      have hge : (91 : Int) ≤ b := by omega
      clear hlt hno k0 k1 klt
      obtain ⟨wo, hwo⟩ : ∃ wo, wo = wr := ⟨_, rfl⟩
      subst hwo
      go_wp2
      go_loopw [6] (fun v6 ws => ∃ n : Nat, v6 = .int .i64 n ∧ 1 ≤ n ∧ n ≤ 30 ∧ Hid (∀ j, 1 ≤ j → j < n → fitsB ⟨kind, char, true, true, true, text⟩ (numbered j) = false) ∧ Hid (Below (w.alloc (.cells #[.int .i64 kind, .int .i32 char, .bool true, .bool true, .bool true, .string ⟨text.toArray⟩] 50)).heap.size (w.alloc (.cells #[.int .i64 kind, .int .i32 char, .bool true, .bool true, .bool true, .string ⟨text.toArray⟩] 50)) ws)) (fun v6 _ => 30 - (intOf v6).toNat)
      case atStart => exact ⟨1, rfl, by omega, by omega, fun j h1 h2 => absurd h1 (by omega), hW.out⟩
      case round =>
        clear hW hb65 hb91 hge
        rename_i wr2 _
        obtain ⟨n, rfl, hn1, hn30, hnn, hW⟩ := hrel
        have k0 : wr.cell? ⟨w.heap.size, 0, none⟩ = some (.int .i64 kind) := blk_cell (blk_below (heap_alloc_new w (.cells #[.int .i64 kind, .int .i32 char, .bool true, .bool true, .bool true, .string ⟨text.toArray⟩] 50)) hW.out) 0
        have k1 : wr.cell? ⟨w.heap.size, 1, none⟩ = some (.int .i32 char) := blk_cell (blk_below (heap_alloc_new w (.cells #[.int .i64 kind, .int .i32 char, .bool true, .bool true, .bool true, .string ⟨text.toArray⟩] 50)) hW.out) 1
        have klt : w.heap.size < wr.heap.size := lt_alloc hW.out
        by_cases hlt : n < 30
        · obtain ⟨l, hl⟩ : ∃ l, numbered n = l := ⟨_, rfl⟩
          have hni : (n : Int) < 30 := by omega
          have hn100 : n < 100 := by omega
          obtain ⟨E, hE⟩ : ∃ E : ByteArray, E = ⟨(Lib.decDigits n).toArray⟩ := ⟨_, rfl⟩
          have itN0 : ∀ W, Calls Tryd.prog 41 #[.int .i64 n] W (fun e w' => e = .returned (.string E) ∧ w' = W) := fun W => by rw [hE]; exact itoa_calls n hn100 W
          have itN := Lib.hid itN0
          have hNs : E.size ≤ 10 := by rw [hE, ← size_len]; exact dec_len hn100
          have HEN : Hid (E.data.toList = Lib.decDigits n) := by show _ = _; rw [hE]
          clear itN0 hE
          have HL := Lib.hid hl
          clear hl
          by_cases h1 : l.kind = kind
          · have q1 : (l.kind != kind) = false := bne_false_i h1
            by_cases h2 : l.kind = 0
            · have q2 : (l.kind == 0) = true := beq_true_i h2
              have hf : Hid (fitsB ⟨kind, char, true, true, true, text⟩ (numbered n) = false) := (by rw [HL.out]; simp [fitsB, h2] : fitsB ⟨kind, char, true, true, true, text⟩ (numbered n) = false)
              clear h1 h2
              go_wp2_with (go_at_call 58; (with_reducible refine (numbered_calls n _).mono ?_); rintro e wz ⟨rfl, hz⟩; rw [HL.out]; obtain ⟨hc', hf'⟩ := bcell hz; have klt2 := lt_next klt hz; unfold keyV)
              exact ⟨⟨n + 1, by go_num, by omega, by omega, fun j g1 g2 => by
                rcases Nat.lt_or_ge j n with h | h
                · exact hnn.out j g1 h
                · rw [show j = n from by omega]; exact hf.out, bel_alloc (bel_call hW.out hz) _⟩, by first | (simp [intOf]; omega) | simp [intOf]⟩
            · have q2 : (l.kind == 0) = false := beq_false_i h2
              by_cases h3 : l.char = char
              · have q3 : (l.char != char) = false := bne_false_i h3
                have hf : Hid (findN ⟨kind, char, true, true, true, text⟩ = some n) := (find_some_at 29 1 n hn1 (by omega) hnn.out (by rw [HL.out]; simp [fitsB, h1, h3]; rintro rfl; exact h2 h1) : findN ⟨kind, char, true, true, true, text⟩ = some n)
                clear h1 h2 h3
                go_wp2_with (first
                  | (go_at_call 58; (with_reducible refine (numbered_calls n _).mono ?_); rintro e wz ⟨rfl, hz⟩; rw [HL.out]; obtain ⟨hc', hf'⟩ := bcell hz; have klt2 := lt_next klt hz; unfold keyV)
                  | (go_at_call 41; (with_reducible refine (itN.out _).mono ?_); rintro e wy ⟨rfl, rfl⟩)
                  | (go_at_call 41; (with_reducible refine (itM.out _).mono ?_); rintro e wy ⟨rfl, rfl⟩))
                go_ret
                exact ⟨ret_s (by rw [seq_N hno2.out hf.out, number_n (m := 8) rfl (by decide), data_app, data_app, data_app, data_app, HEN.out, HDM.out]), bel_alloc (bel_call (bel_ca hW.out) hz) _⟩
              · have q3 : (l.char != char) = true := bne_true_i h3
                have hf : Hid (fitsB ⟨kind, char, true, true, true, text⟩ (numbered n) = false) := (by rw [HL.out]; simp [fitsB, h3] : fitsB ⟨kind, char, true, true, true, text⟩ (numbered n) = false)
                clear h1 h2 h3
                go_wp2_with (go_at_call 58; (with_reducible refine (numbered_calls n _).mono ?_); rintro e wz ⟨rfl, hz⟩; rw [HL.out]; obtain ⟨hc', hf'⟩ := bcell hz; have klt2 := lt_next klt hz; unfold keyV)
                exact ⟨⟨n + 1, by go_num, by omega, by omega, fun j g1 g2 => by
                  rcases Nat.lt_or_ge j n with h | h
                  · exact hnn.out j g1 h
                  · rw [show j = n from by omega]; exact hf.out, bel_alloc (bel_call hW.out hz) _⟩, by first | (simp [intOf]; omega) | simp [intOf]⟩
          · have q1 : (l.kind != kind) = true := bne_true_i h1
            have hf : Hid (fitsB ⟨kind, char, true, true, true, text⟩ (numbered n) = false) := (by rw [HL.out]; simp [fitsB, h1] : fitsB ⟨kind, char, true, true, true, text⟩ (numbered n) = false)
            clear h1
            go_wp2_with (go_at_call 58; (with_reducible refine (numbered_calls n _).mono ?_); rintro e wz ⟨rfl, hz⟩; rw [HL.out]; obtain ⟨hc', hf'⟩ := bcell hz; have klt2 := lt_next klt hz; unfold keyV)
            exact ⟨⟨n + 1, by go_num, by omega, by omega, fun j g1 g2 => by
              rcases Nat.lt_or_ge j n with h | h
              · exact hnn.out j g1 h
              · rw [show j = n from by omega]; exact hf.out, bel_alloc (bel_call hW.out hz) _⟩, by first | (simp [intOf]; omega) | simp [intOf]⟩
        · have hno3 : Hid (findN ⟨kind, char, true, true, true, text⟩ = none) := (find_none_to (fun j g1 g2 => hnn.out j g1 (by omega)) : findN ⟨kind, char, true, true, true, text⟩ = none)
          have hge : (30 : Int) ≤ n := by omega
          go_wp2
          go_ret
          exact ⟨ret_s (by rw [seq_0 hno2.out hno3.out]), (bel_ca hW.out)⟩
end Go.Proofs.YtjjilhfebkeoeaaDoor.Ky
