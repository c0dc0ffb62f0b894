/- The reference's small functions on bytes and characters: walked. -/
import Derived.Test.YtoodidokjchplaaDoorCT
namespace Go.Proofs.YtoodidokjchplaaDoor.Un
open Go Go.RowKit Go.Shelf
open Go.Proofs.YtoodidokjchplaaDoor.Wk (bcell bel_drew bel_drewN bel_alloc bel_set bel_call size_len blk_cell blk_below blk_lt mk_data cells_new)
set_option linter.unusedVariables false
set_option linter.unusedSimpArgs false
def szR (c : Int) : Int := if c < 128 then 1 else if c < 2048 then 2 else if c < 65536 then 3 else 4
def scR (c : Int) : Bool := decide (0 ≤ c ∧ c ≤ 1114111 ∧ (c < 55296 ∨ 57343 < c))
def ldR (b : Int) : Int × Int := if b < 128 then (b, 0) else if 192 ≤ b ∧ b < 224 then (b - 192, 1) else if 224 ≤ b ∧ b < 240 then (b - 224, 2) else if 240 ≤ b ∧ b < 248 then (b - 240, 3) else (0, -1)
def dgR (b : Int) : Int := if 48 ≤ b ∧ b ≤ 57 then b - 48 else if 65 ≤ b ∧ b ≤ 70 then b - 55 else -1
set_option maxHeartbeats 4000000 in
theorem rsize_calls (c : Int) (w : World) : Calls Tryd.prog 77 #[.int .i32 c] w fun e w' => e = .returned (.int .i64 (szR c)) ∧ w' = w := by
  unfold szR
  go_enter Tryd.func77, Tryd.ntmps77
  by_cases h1 : c < 128
  · rw [if_pos h1]
    go_wp2
    go_ret
    exact ⟨rfl, rfl⟩
  · rw [if_neg h1]
    by_cases h2 : c < 2048
    · rw [if_pos h2]
      go_wp2
      go_ret
      exact ⟨rfl, rfl⟩
    · rw [if_neg h2]
      by_cases h3 : c < 65536
      · rw [if_pos h3]
        go_wp2
        go_ret
        exact ⟨rfl, rfl⟩
      · rw [if_neg h3]
        go_wp2
        go_ret
        exact ⟨rfl, rfl⟩
set_option maxHeartbeats 4000000 in
theorem rscalar_calls (c : Int) (w : World) : Calls Tryd.prog 93 #[.int .i32 c] w fun e w' => e = .returned (.bool (scR c)) ∧ w' = w := by
  unfold scR
  go_enter Tryd.func93, Tryd.ntmps93
  by_cases h1 : 0 ≤ c
  · by_cases h2 : c ≤ 1114111
    · by_cases h3 : c < 55296
      · go_wp2
        go_ret
        exact ⟨by simp; omega, rfl⟩
      · go_wp2
        go_ret
        exact ⟨by simp; omega, rfl⟩
    · go_wp2
      go_ret
      exact ⟨by simp; omega, rfl⟩
  · go_wp2
    go_ret
    exact ⟨by simp; omega, rfl⟩
set_option maxHeartbeats 4000000 in
theorem rdigit_calls (c : Int) (hc : 0 ≤ c ∧ c < 256) (w : World) : Calls Tryd.prog 94 #[.int .u8 c] w fun e w' => e = .returned (.int .i32 (dgR c)) ∧ w' = w := by
  unfold dgR
  have a1 : 48 ≤ c ∧ c ≤ 57 → IntKind.u8.wrap (c - 48) = c - 48 := fun h => by rw [IntKind.wrap_u8]; omega
  have a2 : 65 ≤ c ∧ c ≤ 70 → IntKind.u8.wrap (c - 65) = c - 65 := fun h => by rw [IntKind.wrap_u8]; omega
  replace a1 := Lib.hid a1
  replace a2 := Lib.hid a2
  go_enter Tryd.func94, Tryd.ntmps94
  by_cases h1 : 48 ≤ c ∧ c ≤ 57
  · rw [if_pos h1]
    have b1 := a1.out h1
    have b2 : IntKind.i32.wrap (c - 48) = c - 48 := by rw [IntKind.wrap_i32]; omega
    obtain ⟨h2, h3⟩ := h1
    go_wp2
    go_ret
    exact ⟨rfl, rfl⟩
  · rw [if_neg h1]
    by_cases h2 : 65 ≤ c ∧ c ≤ 70
    · rw [if_pos h2]
      have b1 := a2.out h2
      have b2 : IntKind.i32.wrap (c - 65) = c - 65 := by rw [IntKind.wrap_i32]; omega
      have b3 : IntKind.i32.wrap (c - 65 + 10) = c - 55 := by rw [IntKind.wrap_i32]; omega
      obtain ⟨h3, h4⟩ := h2
      have h5 : 57 < c := by omega
      have h6 : 48 ≤ c := by omega
      clear h1
      go_wp2
      go_ret
      exact ⟨rfl, rfl⟩
    · rw [if_neg h2]
      by_cases h3 : c < 48
      · have h4 : c < 65 := by omega
        clear h1 h2
        go_wp2
        go_ret
        exact ⟨rfl, rfl⟩
      · by_cases h4 : c < 65
        · have h5 : 57 < c := by omega
          have h6 : 48 ≤ c := by omega
          clear h1 h2 h3
          go_wp2
          go_ret
          exact ⟨rfl, rfl⟩
        · have h5 : 57 < c := by omega
          have h6 : 48 ≤ c := by omega
          have h7 : 65 ≤ c := by omega
          have h8 : 70 < c := by omega
          clear h1 h2 h3 h4
          go_wp2
          go_ret
          exact ⟨rfl, rfl⟩
set_option maxHeartbeats 4000000 in
theorem rlead_calls (b : Int) (hb : 0 ≤ b ∧ b < 256) (w : World) : Calls Tryd.prog 92 #[.int .u8 b] w fun e w' => e = .returned (.tuple #[.int .i32 (ldR b).1, .int .i64 (ldR b).2]) ∧ w' = w := by
  have hw : IntKind.i32.wrap b = b := by rw [IntKind.wrap_i32]; omega
  unfold ldR
  go_enter Tryd.func92, Tryd.ntmps92
  by_cases h1 : b < 128
  · rw [if_pos h1]
    go_wp2
    exact bodyPost_ret (v := .tuple #[.int .i32 b, .int .i64 0]) (by simp [results, Tryd.results92, go_sem]) rfl ⟨rfl, rfl⟩
  · rw [if_neg h1]
    have f1 : 192 ≤ b → IntKind.i32.wrap (b - 192) = b - 192 := fun h => by rw [IntKind.wrap_i32]; omega
    have f2 : 224 ≤ b → IntKind.i32.wrap (b - 224) = b - 224 := fun h => by rw [IntKind.wrap_i32]; omega
    have f3 : 240 ≤ b → IntKind.i32.wrap (b - 240) = b - 240 := fun h => by rw [IntKind.wrap_i32]; omega
    replace f1 := Lib.hid f1
    replace f2 := Lib.hid f2
    replace f3 := Lib.hid f3
    by_cases h2 : b < 192
    · rw [if_neg (by omega), if_neg (by omega), if_neg (by omega)]
      have g1 : b < 224 := by omega
      have g2 : b < 240 := by omega
      go_wp2
      exact bodyPost_ret (v := .tuple #[.int .i32 0, .int .i64 (-1)]) (by simp [results, Tryd.results92, go_sem]) rfl ⟨rfl, rfl⟩
    · have h2' : 192 ≤ b := by omega
      clear h2
      by_cases h3 : b < 224
      · rw [if_pos (by omega)]
        have f := f1.out h2'
        go_wp2
        exact bodyPost_ret (v := .tuple #[.int .i32 (b - 192), .int .i64 1]) (by simp [results, Tryd.results92, go_sem]) rfl ⟨rfl, rfl⟩
      · rw [if_neg (by omega)]
        have h3' : 224 ≤ b := by omega
        clear h3
        by_cases h4 : b < 240
        · rw [if_pos (by omega)]
          have f := f2.out h3'
          go_wp2
          exact bodyPost_ret (v := .tuple #[.int .i32 (b - 224), .int .i64 2]) (by simp [results, Tryd.results92, go_sem]) rfl ⟨rfl, rfl⟩
        · rw [if_neg (by omega)]
          have h4' : 240 ≤ b := by omega
          clear h4
          by_cases h5 : b < 248
          · rw [if_pos (by omega)]
            have f := f3.out h4'
            go_wp2
            exact bodyPost_ret (v := .tuple #[.int .i32 (b - 240), .int .i64 3]) (by simp [results, Tryd.results92, go_sem]) rfl ⟨rfl, rfl⟩
          · rw [if_neg (by omega)]
            go_wp2
            exact bodyPost_ret (v := .tuple #[.int .i32 0, .int .i64 (-1)]) (by simp [results, Tryd.results92, go_sem]) rfl ⟨rfl, rfl⟩
end Go.Proofs.YtoodidokjchplaaDoor.Un
