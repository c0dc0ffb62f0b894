/- script.Piece, script.unpiece, script.width, cluster.Next at its fixed call: walked. -/
import Derived.Test.YtibgefampokfkaaDoorBld
import Derived.Test.YtibgefampokfkaaDoorScP
import Derived.WalkKit
import Derived.LoopTactic
import Derived.Deep.LoopGhost
import Derived.Outline
import Derived.Lib.Hide
import Derived.BigQuiet
import Derived.Laws.BitsLemmas
import Derived.Laws.BitsAllLaws
namespace Go.Proofs.YtibgefampokfkaaDoor.Sc
open Go Go.RowKit
set_option linter.unusedVariables false

theorem piece_snoc (l : List UInt8) (c : UInt8) : piece (l ++ [c]) = piece l ++ pc c := by simp [piece]
theorem take_snoc (s : ByteArray) (k : Nat) (h : k < s.size) : s.data.toList.take (k + 1) = s.data.toList.take k ++ [s[k]] := by
  rw [List.take_succ_eq_append_getElem (by simpa using h)]; rfl
theorem pc_len (c : UInt8) : (pc c).length ≤ 4 := by
  unfold pc; repeat' split
  all_goals simp
theorem piece_len (l : List UInt8) : (piece l).length ≤ 4 * l.length := by
  induction l with
  | nil => simp [piece]
  | cons c r ih => have := pc_len c; simp only [piece, List.flatMap_cons, List.length_append, List.length_cons] at *; omega

theorem ret_str {a b : List UInt8} (h : a = b) : Ending.returned (.string ⟨a.toArray⟩) = .returned (.string ⟨b.toArray⟩) := by rw [h]
theorem hexat : ∀ (i : Nat) (h : i < 16), (⟨#[48, 49, 50, 51, 52, 53, 54, 55, 56, 57, 97, 98, 99, 100, 101, 102]⟩ : ByteArray)[i]'(show i < 16 from h) = hexOf i
  | 0, _ => rfl | 1, _ => rfl | 2, _ => rfl | 3, _ => rfl | 4, _ => rfl | 5, _ => rfl | 6, _ => rfl | 7, _ => rfl | 8, _ => rfl | 9, _ => rfl | 10, _ => rfl | 11, _ => rfl | 12, _ => rfl | 13, _ => rfl | 14, _ => rfl | 15, _ => rfl
  | n + 16, h => absurd h (by omega)
theorem pc_of (c : UInt8) : pc c = if ((c.toNat : Int) == 92) = true then [92, 92] else if 32 ≤ (c.toNat : Int) ∧ (c.toNat : Int) ≤ 126 then [c] else if ((c.toNat : Int) == 10) = true then [92, 110] else if ((c.toNat : Int) == 13) = true then [92, 114]
    else if ((c.toNat : Int) == 9) = true then [92, 116] else if ((c.toNat : Int) == 27) = true then [92, 101] else [92, 120, hexOf (c.toNat / 16), hexOf (c.toNat % 16)] := by
  have e : ∀ n : UInt8, ((c.toNat : Int) == n.toNat) = true ↔ c = n := fun n => by rw [beq_iff_eq, ← UInt8.toNat_inj]; omega
  have e1 := e 92; have e2 := e 10; have e3 := e 13; have e4 := e 9; have e5 := e 27
  have e6 : (32 ≤ (c.toNat : Int) ∧ (c.toNat : Int) ≤ 126) ↔ (32 ≤ c ∧ c ≤ 126) := by rw [UInt8.le_iff_toNat_le, UInt8.le_iff_toNat_le]; simp; omega
  simp only [UInt8.reduceToNat, Int.cast_ofNat_Int] at e1 e2 e3 e4 e5
  simp only [pc, e1, e2, e3, e4, e5, e6]

set_option maxHeartbeats 1000000 in
set_option maxRecDepth 100000 in
theorem piece_calls (s : ByteArray) (w : World) (hs : s.size ≤ 1000000000) :
    Calls Tryd.prog 15 #[.string s] w fun e w' => e = .returned (.string ⟨(piece s.data.toList).toArray⟩) ∧ Below w.heap.size w w' := by
  go_enter Tryd.func15, Tryd.ntmps15
  go_wp2
  go_loopw [8] (fun v wr => ∃ k : Nat, v = .int .i64 k ∧ k ≤ s.size ∧ Lib.IsBuilder 51 5 w.heap.size w.heap.size (Lib.byteCells (piece (s.data.toList.take k))) wr ∧ Below w.heap.size w wr) (fun v _ => s.size - (intOf v).toNat)
  case atStart => exact ⟨0, rfl, Nat.zero_le _, Bld.fresh w _ (Nat.le_refl _), (Below.refl _ _).alloc (Nat.le_refl _) _⟩
  case round =>
    obtain ⟨k, rfl, hk, hb, hB⟩ := hrel
    have hL : (piece (s.data.toList.take k)).length ≤ 4000000000 := by have := piece_len (s.data.toList.take k); simp only [List.length_take] at this; omega
    have hW := hB.size
    by_cases hlt : k < s.size
    · have hc : (s[k].toNat : Int) < 256 := by have := s[k].toNat_lt; omega
      have e0 := take_snoc s k hlt
      have e1 := piece_snoc (s.data.toList.take k) s[k]
      have e2 : Hid (piece (s.data.toList.take (k + 1)) = piece (s.data.toList.take k) ++ pc s[k]) := by rw [e0]; exact e1
      clear e0 e1
      go_wp2_with (first
        | (go_at_call 25; refine (Bld.str_ _ _ _ _ _ hb (by simp; omega) (by assumption)).mono ?_; rintro e wz ⟨rfl, hb', hB'⟩; replace hB := hB.trans hB'; replace hW := hB.size; replace hb := hb'; clear hb' hB')
        | (go_at_call 26; refine (Bld.byte_ _ _ _ _ _ hb (by simp; omega) (by assumption)).mono ?_; rintro e wz ⟨rfl, hb', hB'⟩; replace hB := hB.trans hB'; replace hW := hB.size; replace hb := hb'; clear hb' hB'))
      all_goals (refine ⟨⟨k + 1, by go_num, by omega, ?_, hB⟩, by simp [intOf]; omega⟩; rw [e2.out, pc_of])
      all_goals first | (simp_all; done) | (rw [if_neg (by simp_all), if_neg (by omega), if_neg (by simp_all), if_neg (by simp_all), if_neg (by simp_all), if_neg (by simp_all), ← hexat _ (by omega), ← hexat _ (by omega)]; simpa using hb)
    · go_wp2_with (go_at_call 27; refine (Tryd.Builder_String_any _ _ _ _ hb (by assumption)).mono ?_; rintro e wz ⟨rfl, hB'⟩; replace hB := hB.trans hB')
      go_ret
      exact ⟨ret_str (by rw [List.take_of_length_le (by simp; omega)]), hB⟩
end Go.Proofs.YtibgefampokfkaaDoor.Sc
