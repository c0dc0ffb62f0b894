/- The encoding of one character: the program's and the reference's answer, in closed form. No condition but the int32 range. -/
import Derived.Test.YtgkaiagoogjibaaPBindx9
import Derived.Test.YtgkaiagoogjibaaPBindx16
import Derived.Lib.RuneBytes
namespace Go.Proofs.Ytgkaiagoogjibaa.Bk
open Go Go.RowKit Go.Proofs.Ytgkaiagoogjibaa.PBind Go.Proofs.YtgkaiagoogjibaaW.PrintWords Go.Proofs.YtgkaiagoogjibaaW.PrintLast Go.Proofs.YtgkaiagoogjibaaW.PrintMore

theorem ev_add {α : Type} {g : Nat → Option α} {r : α} (n : Nat) (h : ∀ m, g (m + n) = some r) : Ev g r :=
  ⟨n, fun k hk => by obtain ⟨m, rfl⟩ := Nat.exists_eq_add_of_le' hk; exact h m⟩

def validP (c : Int) : Prop := (0 ≤ c ∧ c < 55296) ∨ (57343 < c ∧ c ≤ 1114111)
instance (c : Int) : Decidable (validP c) := by unfold validP; infer_instance

theorem valid_of (m : Nat) (c : Int) : utf8_ValidRune.f (m + 1) c = some (decide (validP c)) := by
  unfold utf8_ValidRune.f validP
  by_cases h0 : 0 ≤ c
  · rw [if_pos h0]
    simp only [utf8_ValidRune.j0]
    by_cases h1 : c < 55296
    · simp [h0, h1]
    · by_cases h2 : 57343 < c
      · by_cases h3 : c ≤ 1114111
        · simp [h1, h2, h3]
        · simp [h1, h2, h3]
      · simp [h1, h2]
  · rw [if_neg h0]
    simp only [utf8_ValidRune.j0]
    have h2 : ¬ 57343 < c := by omega
    simp [h0, h2]

theorem nonascii_of (m : Nat) (l : List Int) (hl : l.length ≤ 1000) (c : Int) (h0 : 128 ≤ c) (h1 : validP c) : utf8_appendRuneNonASCII.f (m + 1) l c = some (l ++ Lib.encodeRuneZ c) := by
  have hm : c % 4294967296 = c := by unfold validP at h1; omega
  unfold utf8_appendRuneNonASCII.f
  rw [hm]
  by_cases a : c ≤ 2047
  · rw [if_pos a, Lib.encodeRuneZ_two h0 a]
    have e : Go.bits .or .u8 192 ((c / 64) % 256) = 192 + c / 64 := by
      rw [show (c / 64) % 256 = c / 64 by omega]
      exact u8_or192 _ (by omega) (by omega)
    simp only [Option.bind_some, e, List.length_cons, List.length_nil]
    rw [if_pos (by omega)]
  · rw [if_neg a]
    by_cases b : c ≤ 65535
    · have e : Go.bits .or .u8 224 ((c / 4096) % 256) = 224 + c / 4096 := by
        rw [show (c / 4096) % 256 = c / 4096 by omega]
        exact u8_or224 _ (by omega) (by omega)
      have ez := Lib.encodeRuneZ_three (r := c) (by unfold validP at h1; omega)
      by_cases d : c < 55296
      · rw [if_pos d, ez]
        simp only [utf8_appendRuneNonASCII.j0, d, decide_true, if_true, Option.bind_some, e, List.length_cons, List.length_nil]
        rw [if_pos (by omega)]
      · have d2 : 57343 < c := by unfold validP at h1; omega
        rw [if_neg d, if_pos d2, ez]
        simp only [utf8_appendRuneNonASCII.j0, b, decide_true, if_true, Option.bind_some, e, List.length_cons, List.length_nil]
        rw [if_pos (by omega)]
    · have d : ¬ c < 55296 := by omega
      have d2 : 57343 < c := by omega
      have hc : c ≤ 1114111 := by unfold validP at h1; omega
      have e : Go.bits .or .u8 240 ((c / 262144) % 256) = 240 + c / 262144 := by
        rw [show (c / 262144) % 256 = c / 262144 by omega]
        exact u8_or240 _ (by omega) (by omega)
      rw [if_neg d, if_pos d2, Lib.encodeRuneZ_four (r := c) (by omega) hc]
      have b' : c > 65535 := by omega
      simp only [utf8_appendRuneNonASCII.j0, b, decide_false, Bool.false_eq_true, if_false, b', hc, if_true, Option.bind_some, e, List.length_cons, List.length_nil]
      rw [if_pos (by omega)]

theorem append_of (m : Nat) (l : List Int) (hl : l.length ≤ 1000) (c : Int) (h1 : validP c) : utf8_AppendRune.f (m + 1) l c = some (l ++ Lib.encodeRuneZ c) := by
  have hm : c % 4294967296 = c := by unfold validP at h1; omega
  unfold utf8_AppendRune.f
  rw [hm]
  by_cases a : c ≤ 127
  · have h0 : 0 ≤ c := by unfold validP at h1; omega
    rw [if_pos a, if_pos (by omega), Lib.encodeRuneZ_one h0 a, show c % 256 = c by omega]
  · rw [if_neg a, nonascii_of m l hl c (by omega) h1]
    rfl

def encL (c : Int) : List Int := if validP c then Lib.encodeRuneZ c else []

theorem wrap64_one : wrap64 (0 + 1) = 1 := by unfold wrap64; omega

theorem unit_enc (m : Nat) (c : Int) : unit_Encode.f (m + 3) [c] = some (strOfNums (encL c)) := by
  unfold unit_Encode.f encL
  have e0 : rd [c] 0 = c := rfl
  simp only [unit_Encode.l0, List.length_cons, List.length_nil, e0, valid_of, Option.bind_some, wrap64_one]
  by_cases h : validP c
  · simp [h, append_of]
  · simp [h]

theorem encL_len (c : Int) : (encL c).length ≤ 4 := by
  unfold encL
  split
  · exact (Lib.encodeRuneZ_length c).2
  · simp

theorem scalar_of (c : Int) : bodkinref01_scalar.f c = some (decide (validP c)) := by
  unfold bodkinref01_scalar.f validP
  by_cases h0 : c ≥ 0
  · by_cases h1 : c ≤ 1114111
    · by_cases h2 : c < 55296
      · simp [h0, h1, h2]
      · simp [h0, h1, h2]
    · simp [h0, h1]
      omega
  · simp [h0]
    omega

theorem wrap32_id {x : Int} (h0 : 0 ≤ x) (h1 : x < 2147483648) : wrap32 x = x := by unfold wrap32; omega
theorem wrap64_id {x : Int} (h0 : -9223372036854775808 ≤ x) (h1 : x < 9223372036854775808) : wrap64 x = x := by unfold wrap64; omega


theorem size_of (c : Int) (h : validP c) : bodkinref01_size.f c = some ((Lib.encodeRuneZ c).length : Int) := by
  unfold bodkinref01_size.f
  by_cases h1 : c < 128
  · rw [if_pos h1, Lib.encodeRuneZ_one (by unfold validP at h; omega) (by omega)]; rfl
  · rw [if_neg h1]
    by_cases h2 : c < 2048
    · rw [if_pos h2, Lib.encodeRuneZ_two (by omega) (by omega)]; rfl
    · rw [if_neg h2]
      by_cases h3 : c < 65536
      · rw [if_pos h3, Lib.encodeRuneZ_three (by unfold validP at h; omega)]; rfl
      · rw [if_neg h3, Lib.encodeRuneZ_four (by omega) (by unfold validP at h; omega)]; rfl

theorem tdiv64 {c : Int} (h : 0 ≤ c) : Int.tdiv c 64 = c / 64 := Int.tdiv_eq_ediv_of_nonneg h
theorem tmod64 {c : Int} (h : 0 ≤ c) : Int.tmod c 64 = c % 64 := Int.tmod_eq_emod_of_nonneg h
theorem low_byte {c : Int} (h : 0 ≤ c) : wrap32 (128 + Int.tmod c 64) % 256 = 128 + c % 64 := by
  rw [tmod64 h, wrap32_id (by omega) (by omega)]; omega
theorem shift6 {c : Int} (h : 0 ≤ c) (h1 : c < 2147483648) : wrap32 (Int.tdiv c 64) = c / 64 := by
  rw [tdiv64 h, wrap32_id (by omega) (by omega)]
theorem sub1_3 : wrap64 ((3 : Int) - 1) = 2 := by unfold wrap64; omega
theorem sub1_2 : wrap64 ((2 : Int) - 1) = 1 := by unfold wrap64; omega
theorem sub1_1 : wrap64 ((1 : Int) - 1) = 0 := by unfold wrap64; omega
theorem sub1_4 : wrap64 ((4 : Int) - 1) = 3 := by unfold wrap64; omega
theorem lead_byte {c a : Int} (h : 0 ≤ c) (h1 : c < 64) (ha : 0 ≤ a) (hb : a + c < 256) : wrap64 (a + wrap64 c) % 256 = a + c := by
  rw [wrap64_id (x := c) (by omega) (by omega), wrap64_id (by omega) (by omega)]; omega

theorem enc_step (m : Nat) (c n : Int) (l : List Int) (i : Int) (hi : 0 < i) (hl : i < (l.length : Int)) (h5 : i < 5) (h : 0 ≤ c) (h1 : c < 2147483648) :
    bodkinref01_encoding.l0 (m + 1) c n l i = bodkinref01_encoding.l0 m (c / 64) n (l.set i.toNat (128 + c % 64)) (i - 1) := by
  simp only [bodkinref01_encoding.l0]
  rw [if_pos hi, if_pos (by omega), if_pos hl, low_byte h, shift6 h h1, wrap64_id (by omega) (by omega)]
theorem enc_done (m : Nat) (c n a : Int) (l : List Int) (hn : 0 ≤ n) (hn5 : n < 5) (ha : rd [0, 0, 192, 224, 240] n = a) (hl : 0 < (l.length : Int)) (h : 0 ≤ c) (h1 : c < 64) (ha0 : 0 ≤ a) (hb : a + c < 256) :
    bodkinref01_encoding.l0 (m + 1) c n l 0 = some (strOfNums (l.set 0 (a + c))) := by
  simp only [bodkinref01_encoding.l0, Option.bind_some, ha]
  rw [if_neg (by omega), if_pos hn, if_pos (by simpa using hn5), if_pos hl, lead_byte h h1 ha0 hb]
  rfl

theorem ref_encoding (m : Nat) (c : Int) (h : validP c) : bodkinref01_encoding.f (m + 5) c = some (strOfNums (Lib.encodeRuneZ c)) := by
  unfold bodkinref01_encoding.f
  rw [size_of c h]
  have hc0 : 0 ≤ c := by unfold validP at h; omega
  have hc1 : c ≤ 1114111 := by unfold validP at h; omega
  by_cases h1 : c < 128
  · rw [Lib.encodeRuneZ_one hc0 (by omega)]
    simp only [Option.bind_some, List.length_cons, List.length_nil]
    rw [if_pos (by decide), show c % 256 = c by omega]
  · by_cases h2 : c < 2048
    · rw [Lib.encodeRuneZ_two (by omega) (by omega)]
      simp only [Option.bind_some, List.length_cons, List.length_nil]
      rw [if_neg (by decide), if_pos (by decide), if_pos (by decide)]
      show bodkinref01_encoding.l0 (m + 5) c 2 [0, 0] (wrap64 ((2 : Int) - 1)) = _
      rw [sub1_2, enc_step (m + 4) c 2 [0, 0] 1 (by decide) (by decide) (by decide) hc0 (by omega)]
      show bodkinref01_encoding.l0 (m + 4) (c / 64) 2 [0, 128 + c % 64] 0 = _
      rw [enc_done (m + 3) (c / 64) 2 192 _ (by decide) (by decide) rfl (by simp) (by omega) (by omega) (by omega) (by omega)]
      rfl
    · by_cases h3 : c < 65536
      · rw [Lib.encodeRuneZ_three (by unfold validP at h; omega)]
        simp only [Option.bind_some, List.length_cons, List.length_nil]
        rw [if_neg (by decide), if_pos (by decide), if_pos (by decide)]
        show bodkinref01_encoding.l0 (m + 5) c 3 [0, 0, 0] (wrap64 ((3 : Int) - 1)) = _
        rw [sub1_3, enc_step (m + 4) c 3 [0, 0, 0] 2 (by decide) (by decide) (by decide) hc0 (by omega)]
        show bodkinref01_encoding.l0 (m + 4) (c / 64) 3 [0, 0, 128 + c % 64] 1 = _
        rw [enc_step (m + 3) (c / 64) 3 _ 1 (by decide) (by simp) (by decide) (by omega) (by omega)]
        show bodkinref01_encoding.l0 (m + 3) (c / 64 / 64) 3 [0, 128 + c / 64 % 64, 128 + c % 64] 0 = _
        rw [enc_done (m + 2) (c / 64 / 64) 3 224 _ (by decide) (by decide) rfl (by simp) (by omega) (by omega) (by omega) (by omega), show c / 64 / 64 = c / 4096 by omega]
        rfl
      · rw [Lib.encodeRuneZ_four (by omega) hc1]
        simp only [Option.bind_some, List.length_cons, List.length_nil]
        rw [if_neg (by decide), if_pos (by decide), if_pos (by decide)]
        show bodkinref01_encoding.l0 (m + 5) c 4 [0, 0, 0, 0] (wrap64 ((4 : Int) - 1)) = _
        rw [sub1_4, enc_step (m + 4) c 4 [0, 0, 0, 0] 3 (by decide) (by decide) (by decide) hc0 (by omega)]
        show bodkinref01_encoding.l0 (m + 4) (c / 64) 4 [0, 0, 0, 128 + c % 64] 2 = _
        rw [enc_step (m + 3) (c / 64) 4 _ 2 (by decide) (by simp) (by decide) (by omega) (by omega)]
        show bodkinref01_encoding.l0 (m + 3) (c / 64 / 64) 4 [0, 0, 128 + c / 64 % 64, 128 + c % 64] 1 = _
        rw [enc_step (m + 2) (c / 64 / 64) 4 _ 1 (by decide) (by simp) (by decide) (by omega) (by omega)]
        show bodkinref01_encoding.l0 (m + 2) (c / 64 / 64 / 64) 4 [0, 128 + c / 64 / 64 % 64, 128 + c / 64 % 64, 128 + c % 64] 0 = _
        rw [enc_done (m + 1) (c / 64 / 64 / 64) 4 240 _ (by decide) (by decide) rfl (by simp) (by omega) (by omega) (by omega) (by omega), show c / 64 / 64 / 64 = c / 262144 by omega, show c / 64 / 64 = c / 4096 by omega]
        rfl

theorem bytesOf_str {xs : List Int} (h : ∀ x ∈ xs, 0 ≤ x ∧ x < 256) : bytesOf (strOfNums xs) = xs := by
  unfold bytesOf
  rw [strOfNums_data, List.map_map]
  conv => rhs; rw [← List.map_id xs]
  refine List.map_congr_left fun x hx => ?_
  have := h x hx
  simp only [Function.comp, id, UInt8.toNat_ofNat']
  omega

theorem ref_enc (m : Nat) (c : Int) : bodkinref01_Encode.f (m + 7) [c] = some (strOfNums (encL c)) := by
  unfold bodkinref01_Encode.f encL
  have e0 : rd [c] 0 = c := rfl
  simp only [bodkinref01_Encode.l0, List.length_cons, List.length_nil, e0, scalar_of, Option.bind_some, wrap64_one]
  by_cases h : validP c
  · have hb := bytesOf_str (Lib.encodeRuneZ_byte c)
    have hl := (Lib.encodeRuneZ_length c).2
    simp only [h, decide_true, if_true, ref_encoding (m + 1) c h, Option.bind_some, strOfNums_size, List.nil_append, hb]
    simp
    omega
  · simp [h]

end Go.Proofs.Ytgkaiagoogjibaa.Bk
