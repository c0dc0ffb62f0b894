/- script.width and cluster.Next at its fixed call: walked. -/
import Derived.Test.YtibgefampokfkaaDoorScB
import Derived.Lib.ConvBytes
namespace Go.Proofs.YtibgefampokfkaaDoor.Sc
open Go Go.RowKit
set_option linter.unusedVariables false

theorem bytesWorld_below (w : World) (s : ByteArray) : Below w.heap.size w (Lib.bytesWorld w 5 s) :=
  ⟨rfl, rfl, rfl, by rw [Lib.bytesWorld_size]; omega, fun i hi => Lib.bytesWorld_at_old w 5 s i hi⟩
theorem bytesWorld_at (w : World) (s : ByteArray) (k : Nat) (h : k < s.size) : (Lib.bytesWorld w 5 s).cell? ⟨w.heap.size, k, none⟩ = some (.int .u8 s[k].toNat) := by
  rw [Lib.bytesWorld_cell w 5 s k h]
  congr 3
  rw [List.getD_eq_getElem?_getD, List.getElem?_eq_getElem (by simpa using h)]; rfl
theorem beq_false_i {n m : Int} (h : n ≠ m) : (n == m) = false := by rw [beq_eq_false_iff_ne]; exact h
theorem wd_bound : ∀ (l : List UInt8) (n m : Nat), wd n l = some m → m + 1 ≤ (n + 1) * 10 ^ l.length
  | [], n, m, h => by simp only [wd, Option.some.injEq] at h; subst h; simp
  | c :: r, n, m, h => by
    simp only [wd] at h
    split at h
    · cases h
    · rename_i hc
      have := wd_bound r _ _ h
      have h57 : c.toNat ≤ 57 := by simp only [not_or, UInt8.not_lt, UInt8.le_iff_toNat_le] at hc; simpa using hc.2
      have h2 : (10 * n + (c.toNat - 48) + 1) * 10 ^ r.length ≤ ((n + 1) * 10) * 10 ^ r.length := Nat.mul_le_mul_right _ (by omega)
      rw [List.length_cons, Nat.pow_succ, Nat.mul_comm (10 ^ r.length), ← Nat.mul_assoc]
      omega
theorem wd_cons (n : Nat) (c : UInt8) (r : List UInt8) : wd n (c :: r) = if (c.toNat : Int) < 48 ∨ 57 < (c.toNat : Int) then none else wd (10 * n + (c.toNat - 48)) r := by
  have e6 : (c < 48 ∨ 57 < c) ↔ ((c.toNat : Int) < 48 ∨ 57 < (c.toNat : Int)) := by rw [UInt8.lt_iff_toNat_lt, UInt8.lt_iff_toNat_lt]; simp; omega
  simp only [wd, e6]
theorem wid_bad {l : List UInt8} (h : l.length < 1 ∨ 5 < l.length ∨ l.head? = some 48) : wid l = (0, false) := by unfold wid; rw [if_pos h]
theorem wid_none {l : List UInt8} (h : wd 0 l = none) : wid l = (0, false) := by unfold wid; rw [h]; split <;> rfl
theorem wid_some {l : List UInt8} {n : Nat} (h0 : ¬ (l.length < 1 ∨ 5 < l.length ∨ l.head? = some 48)) (h : wd 0 l = some n) : wid l = (n, decide (n ≤ 65535)) := by unfold wid; rw [if_neg h0, h]
theorem ret_wid {l : List UInt8} {a : Nat} {b : Bool} (h : wid l = (a, b)) : Ending.returned (.tuple #[.int .i64 (a : Int), .bool b]) = .returned (.tuple #[.int .i64 (wid l).1, .bool (wid l).2]) := by rw [h]
theorem head_get (s : ByteArray) (h : 0 < s.size) : s.data.toList.head? = some s[0] := by
  rw [List.head?_eq_getElem?, List.getElem?_eq_getElem (by simpa using h)]; rfl
/-- How far the digits have been read. -/
def WAt (l : List UInt8) (k n : Nat) : Prop := wd 0 l = wd n (l.drop k) ∧ n + 1 ≤ 10 ^ k

set_option maxHeartbeats 2000000 in
set_option maxRecDepth 100000 in
theorem width_calls (s : ByteArray) (w : World) (hs : s.size ≤ 1000000000) :
    Calls Tryd.prog 34 #[.string s] w fun e w' => e = .returned (.tuple #[.int .i64 (wid s.data.toList).1, .bool (wid s.data.toList).2]) ∧ Below w.heap.size w w' := by
  have hlen : s.data.toList.length = s.size := by simp
  by_cases h1 : s.size < 1
  · have H := Lib.hid (wid_bad (l := s.data.toList) (.inl (by omega)))
    clear hlen
    go_enter Tryd.func34, Tryd.ntmps34
    go_wp2
    go_ret2
    exact ⟨ret_wid (a := 0) H.out, Below.refl _ _⟩
  · by_cases h5 : 5 < s.size
    · have H := Lib.hid (wid_bad (l := s.data.toList) (.inr (.inl (by omega))))
      clear hlen
      go_enter Tryd.func34, Tryd.ntmps34
      go_wp2
      go_ret2
      exact ⟨ret_wid (a := 0) H.out, Below.refl _ _⟩
    · have h0 : 0 < s.size := by omega
      by_cases hz : s[0] = 48
      · have H := Lib.hid (wid_bad (l := s.data.toList) (.inr (.inr (by rw [head_get s h0, hz]))))
        have q : ((s[0].toNat : Int) == 48) = true := by rw [hz]; rfl
        clear hlen hz
        go_enter Tryd.func34, Tryd.ntmps34
        go_wp2
        go_ret2
        exact ⟨ret_wid (a := 0) H.out, Below.refl _ _⟩
      · have H0 := Lib.hid (show ¬ (s.data.toList.length < 1 ∨ 5 < s.data.toList.length ∨ s.data.toList.head? = some 48) from by
          rw [hlen, head_get s h0]; rintro (h | h | h)
          · omega
          · omega
          · exact hz (Option.some.inj h))
        have q : ((s[0].toNat : Int) == 48) = false := beq_false_i (fun h => hz (by rw [← UInt8.toNat_inj]; simp; omega))
        have hLen := Lib.hid hlen
        clear hlen hz
        have hcv := Lib.run_convert_string_bytes (P := Tryd.prog) w 9 41 5 s (u := .string) Tryd.underlying9 Tryd.underlying41 Tryd.underlying5
        go_enter Tryd.func34, Tryd.ntmps34
        go_wp2
        clear hcv
        go_loop [4, 23] (fun v4 v23 => ∃ k n : Nat, v4 = .int .i64 n ∧ v23 = .int .i64 k ∧ k ≤ s.size ∧ Hid (WAt s.data.toList k n) ∧ n ≤ 100000) (fun _ v => s.size - (intOf v).toNat)
        case atStart => exact ⟨0, 0, rfl, rfl, Nat.zero_le _, ⟨rfl, by simp⟩, by omega⟩
        case round =>
          obtain ⟨k, n, rfl, rfl, hk, hW, hn⟩ := hrel
          by_cases hlt : k < s.size
          · have hc := bytesWorld_at w s k hlt
            have hc6 : (s[k].toNat : Int) < 256 := by have := s[k].toNat_lt; omega
            have D0 : Hid (s.data.toList.drop k = s[k] :: s.data.toList.drop (k + 1)) := drop_cons s k hlt
            go_wp2
            all_goals first
              | (go_ret2; refine ⟨?_, bytesWorld_below w s⟩; refine ret_wid (a := 0) (wid_none ?_); rw [hW.out.1, D0.out, wd_cons, if_pos (by omega)])
              | (refine ⟨⟨k + 1, 10 * n + (s[k].toNat - 48), by go_num, by go_num, by omega, ⟨by rw [hW.out.1, D0.out, wd_cons, if_neg (by omega)], ?_⟩, ?_⟩, by simp [intOf]; omega⟩ <;> (have hp := hW.out.2; have hq : (10 : Nat) ^ k ≤ 10 ^ 4 := Nat.pow_le_pow_right (by omega) (by omega); have hr := Nat.pow_succ 10 k; omega))
          · have hke : Hid (k = s.size) := (by omega : k = s.size)
            go_wp2
            go_ret2
            have hv : wd 0 s.data.toList = some n := by rw [hW.out.1, List.drop_of_length_le (by rw [hLen.out]; omega)]; rfl
            refine ⟨?_, bytesWorld_below w s⟩
            rw [← ret_wid (wid_some H0.out hv), show decide (n ≤ 65535) = decide ((n : Int) ≤ 65535) from by simp only [decide_eq_decide]; omega]
            rfl
end Go.Proofs.YtibgefampokfkaaDoor.Sc
