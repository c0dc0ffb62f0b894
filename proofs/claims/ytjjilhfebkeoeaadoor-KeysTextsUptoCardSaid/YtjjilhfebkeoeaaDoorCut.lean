/- strings.Cut at a separator of one byte: walked, with no word on the library's variables. -/
import Derived.Test.YtjjilhfebkeoeaaDoorShelf
import Derived.WalkKit
import Derived.Lib.Hide
import Derived.BigQuiet
import Derived.Outline
import Derived.Laws.Strings3
import Derived.Laws.DeepStrings4
import Derived.Laws.Slices
import Derived.Lib.Bytealg
import Derived.Lib.CutLaws
namespace Go.Proofs.YtjjilhfebkeoeaaDoor.Cut
open Go Go.RowKit
set_option linter.unusedVariables false

/-- A text cut at a byte. -/
def cut1 (c : UInt8) : List UInt8 → List UInt8 × List UInt8 × Bool
  | [] => ([], [], false)
  | x :: r => if x = c then ([], r, true) else (x :: (cut1 c r).1, (cut1 c r).2.1, (cut1 c r).2.2)
theorem cut1_index (c : UInt8) : ∀ l : List UInt8, (Lib.indexByte l c = -1 ∧ cut1 c l = (l, [], false)) ∨ ∃ i : Nat, i < l.length ∧ Lib.indexByte l c = i ∧ cut1 c l = (l.take i, l.drop (i + 1), true)
  | [] => .inl ⟨rfl, rfl⟩
  | x :: r => by
    by_cases h : x = c
    · exact .inr ⟨0, by simp, by simp [Lib.indexByte, h], by simp [cut1, h]⟩
    · rcases cut1_index c r with ⟨h1, h2⟩ | ⟨i, hi, h1, h2⟩
      · exact .inl ⟨by simp [Lib.indexByte, h, h1], by simp [cut1, h, h2]⟩
      · refine .inr ⟨i + 1, by simp; omega, ?_, by simp [cut1, h, h2]⟩
        have : ¬ ((i : Int) = -1) := by omega
        simp [Lib.indexByte, h, h1, this]
theorem ret_cut {a b : ByteArray} {d : Bool} {l : List UInt8} {c : UInt8} (h : cut1 c l = (a.data.toList, b.data.toList, d)) :
    Ending.returned (.tuple #[.string a, .string b, .bool d]) = .returned (.tuple #[.string ⟨(cut1 c l).1.toArray⟩, .string ⟨(cut1 c l).2.1.toArray⟩, .bool (cut1 c l).2.2]) := by rw [h]

set_option maxRecDepth 100000 in
theorem lite_calls (s : ByteArray) (c : UInt8) (w : World) (hs : s.size ≤ 9223372036854775800) :
    Calls Tryd.prog 92 #[.string s, .string ⟨#[c]⟩] w fun e w' => e = .returned (.tuple #[.string ⟨(cut1 c s.data.toList).1.toArray⟩, .string ⟨(cut1 c s.data.toList).2.1.toArray⟩, .bool (cut1 c s.data.toList).2.2]) ∧ ∃ n, w' = w.drewN n := by
  have hlen : s.data.toList.length = s.size := by simp
  rcases cut1_index c s.data.toList with ⟨h1, h2⟩ | ⟨i, hi, h1, h2⟩
  · replace h2 := Lib.hid h2
    clear hlen
    go_enter Tryd.func92, Tryd.ntmps92
    go_wp2_with (go_at_call 101; refine (Tryd.stringslite_Index_one s c _).mono ?_; rintro e wz ⟨rfl, rfl⟩; rw [h1])
    go_ret3
    exact ⟨ret_cut (a := s) (b := ⟨#[]⟩) h2.out, 0, rfl⟩
  · rw [hlen] at hi
    have hi1 : (i : Int) < s.size := by omega
    have hi2 : (i : Int) + 1 ≤ s.size := by omega
    have hi3 : 0 ≤ (i : Int) + 1 := by omega
    have hi4 : (i : Int) ≤ s.size := by omega
    have hi5 : 0 ≤ (i : Int) := by omega
    have w1 : IntKind.i64.wrap ((i : Int) + 1) = (i : Int) + 1 := by rw [IntKind.wrap_i64]; omega
    have n1 : ((i : Int) + 1).toNat = i + 1 := by omega
    have h3 : Hid (cut1 c s.data.toList = ((s.extract 0 i).data.toList, (s.extract (i + 1) s.size).data.toList, true)) := by
      show _ = _
      rw [h2, Lib.extract_data, Lib.extract_data]
      simp [List.take_of_length_le]
    clear hlen h2
    go_enter Tryd.func92, Tryd.ntmps92
    go_wp2_with (go_at_call 101; refine (Tryd.stringslite_Index_one s c _).mono ?_; rintro e wz ⟨rfl, rfl⟩; rw [h1])
    go_quiet (fail)
    go_wp2
    go_ret3
    exact ⟨ret_cut h3.out, _, rfl⟩
set_option maxRecDepth 100000 in
theorem cut_calls (s : ByteArray) (c : UInt8) (w : World) (hs : s.size ≤ 9223372036854775800) :
    Calls Tryd.prog 82 #[.string s, .string ⟨#[c]⟩] w fun e w' => e = .returned (.tuple #[.string ⟨(cut1 c s.data.toList).1.toArray⟩, .string ⟨(cut1 c s.data.toList).2.1.toArray⟩, .bool (cut1 c s.data.toList).2.2]) ∧ ∃ n, w' = w.drewN n := by
  go_enter Tryd.func82, Tryd.ntmps82
  go_wp2_with (go_at_call 92; refine (lite_calls s c _ hs).mono ?_; rintro e wz ⟨rfl, n, rfl⟩)
  go_ret3
  exact ⟨rfl, n, rfl⟩
end Go.Proofs.YtjjilhfebkeoeaaDoor.Cut
