/- The encoding of one character: the program's and the reference's answer, in closed form. No condition but the int32 range. -/
import Derived.Test.YtgkaiagoogjibaaPBindx9
import Derived.Test.YtgkaiagoogjibaaPBindx0
import Derived.Test.YtgkaiagoogjibaaPBindx10
import Derived.Lib.RuneBytes
namespace Go.Proofs.Ytgkaiagoogjibaa.Bk
open Go Go.RowKit Go.Proofs.Ytgkaiagoogjibaa.PBind Go.Proofs.YtgkaiagoogjibaaW.PrintWords Go.Proofs.YtgkaiagoogjibaaW.PrintLast Go.Proofs.YtgkaiagoogjibaaW.PrintMore

def validP (c : Int) : Prop := (0 ≤ c ∧ c < 55296) ∨ (57343 < c ∧ c ≤ 1114111)
instance (c : Int) : Decidable (validP c) := by unfold validP; infer_instance

theorem valid_of (m : Nat) (c : Int) : utf8_ValidRune.f (m + 1) c = some (decide (validP c)) := by
  unfold utf8_ValidRune.f validP
  by_cases h0 : 0 ≤ c
  · rw [if_pos h0]
    simp only [utf8_ValidRune.j0]
    by_cases h1 : c < 55296
    · simp [h0, h1]
    · by_cases h2 : 57343 < c
      · by_cases h3 : c ≤ 1114111
        · simp [h1, h2, h3]
        · simp [h1, h2, h3]
      · simp [h1, h2]
  · rw [if_neg h0]
    simp only [utf8_ValidRune.j0]
    have h2 : ¬ 57343 < c := by omega
    simp [h0, h2]

theorem nonascii_of (m : Nat) (l : List Int) (hl : l.length ≤ 1000) (c : Int) (h0 : 128 ≤ c) (h1 : validP c) : utf8_appendRuneNonASCII.f (m + 1) l c = some (l ++ Lib.encodeRuneZ c) := by
  have hm : c % 4294967296 = c := by unfold validP at h1; omega
  unfold utf8_appendRuneNonASCII.f
  rw [hm]
  by_cases a : c ≤ 2047
  · rw [if_pos a, Lib.encodeRuneZ_two h0 a]
    have e : Go.bits .or .u8 192 ((c / 64) % 256) = 192 + c / 64 := by
      rw [show (c / 64) % 256 = c / 64 by omega]
      exact u8_or192 _ (by omega) (by omega)
    simp only [Option.bind_some, e, List.length_cons, List.length_nil]
    rw [if_pos (by omega)]
  · rw [if_neg a]
    by_cases b : c ≤ 65535
    · have e : Go.bits .or .u8 224 ((c / 4096) % 256) = 224 + c / 4096 := by
        rw [show (c / 4096) % 256 = c / 4096 by omega]
        exact u8_or224 _ (by omega) (by omega)
      have ez := Lib.encodeRuneZ_three (r := c) (by unfold validP at h1; omega)
      by_cases d : c < 55296
      · rw [if_pos d, ez]
        simp only [utf8_appendRuneNonASCII.j0, d, decide_true, if_true, Option.bind_some, e, List.length_cons, List.length_nil]
        rw [if_pos (by omega)]
      · have d2 : 57343 < c := by unfold validP at h1; omega
        rw [if_neg d, if_pos d2, ez]
        simp only [utf8_appendRuneNonASCII.j0, b, decide_true, if_true, Option.bind_some, e, List.length_cons, List.length_nil]
        rw [if_pos (by omega)]
    · have d : ¬ c < 55296 := by omega
      have d2 : 57343 < c := by omega
      have hc : c ≤ 1114111 := by unfold validP at h1; omega
      have e : Go.bits .or .u8 240 ((c / 262144) % 256) = 240 + c / 262144 := by
        rw [show (c / 262144) % 256 = c / 262144 by omega]
        exact u8_or240 _ (by omega) (by omega)
      rw [if_neg d, if_pos d2, Lib.encodeRuneZ_four (r := c) (by omega) hc]
      have b' : c > 65535 := by omega
      simp only [utf8_appendRuneNonASCII.j0, b, decide_false, Bool.false_eq_true, if_false, b', hc, if_true, Option.bind_some, e, List.length_cons, List.length_nil]
      rw [if_pos (by omega)]

theorem append_of (m : Nat) (l : List Int) (hl : l.length ≤ 1000) (c : Int) (h1 : validP c) : utf8_AppendRune.f (m + 1) l c = some (l ++ Lib.encodeRuneZ c) := by
  have hm : c % 4294967296 = c := by unfold validP at h1; omega
  unfold utf8_AppendRune.f
  rw [hm]
  by_cases a : c ≤ 127
  · have h0 : 0 ≤ c := by unfold validP at h1; omega
    rw [if_pos a, if_pos (by omega), Lib.encodeRuneZ_one h0 a, show c % 256 = c by omega]
  · rw [if_neg a, nonascii_of m l hl c (by omega) h1]
    rfl

def encL (c : Int) : List Int := if validP c then Lib.encodeRuneZ c else []

theorem wrap64_one : wrap64 (0 + 1) = 1 := by unfold wrap64; omega

theorem unit_enc (m : Nat) (c : Int) : unit_Encode.f (m + 3) [c] = some (strOfNums (encL c)) := by
  unfold unit_Encode.f encL
  have e0 : rd [c] 0 = c := rfl
  simp only [unit_Encode.l0, List.length_cons, List.length_nil, e0, valid_of, Option.bind_some, wrap64_one]
  by_cases h : validP c
  · simp [h, append_of]
  · simp [h]

theorem wrap32_id {x : Int} (h0 : 0 ≤ x) (h1 : x < 2147483648) : wrap32 x = x := by unfold wrap32; omega
theorem wrap64_id {x : Int} (h0 : -9223372036854775808 ≤ x) (h1 : x < 9223372036854775808) : wrap64 x = x := by unfold wrap64; omega


end Go.Proofs.Ytgkaiagoogjibaa.Bk
