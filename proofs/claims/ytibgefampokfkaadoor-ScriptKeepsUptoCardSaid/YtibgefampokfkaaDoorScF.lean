/- The reference's width, event: walked. -/
import Derived.Test.YtibgefampokfkaaDoorScE
namespace Go.Proofs.YtibgefampokfkaaDoor.Sc
open Go Go.RowKit Go.Proofs.YtibgefampokfkaaDoor.Cut
open Go.Proofs.YtibgefampokfkaaDoor.Wk (bcell bel_drew bel_alloc bel_set bel_call list_beq list_bne beq_true_i bne_true_i bne_false_i size_len string_of_own own_slice own_below mk_data)
set_option linter.unusedVariables false
set_option linter.unusedSimpArgs false

set_option maxHeartbeats 2000000 in
set_option maxRecDepth 100000 in
theorem rwidth_calls (s : ByteArray) (w : World) (hs : s.size ≤ 1000000000) :
    Calls Tryd.prog 36 #[.string s] w fun e w' => e = .returned (.tuple #[.int .i64 (wid s.data.toList).1, .bool (wid s.data.toList).2]) ∧ w' = w := by
  have hlen : s.data.toList.length = s.size := by simp
  by_cases h1 : s.size < 1
  · have H := Lib.hid (wid_bad (l := s.data.toList) (.inl (by omega)))
    clear hlen
    go_enter Tryd.func36, Tryd.ntmps36
    go_wp2
    go_ret2
    exact ⟨ret_wid (a := 0) H.out, rfl⟩
  · by_cases h5 : 5 < s.size
    · have H := Lib.hid (wid_bad (l := s.data.toList) (.inr (.inl (by omega))))
      clear hlen
      go_enter Tryd.func36, Tryd.ntmps36
      go_wp2
      go_ret2
      exact ⟨ret_wid (a := 0) H.out, rfl⟩
    · have h0 : 0 < s.size := by omega
      by_cases hz : s[0] = 48
      · have H := Lib.hid (wid_bad (l := s.data.toList) (.inr (.inr (by rw [head_get s h0, hz]))))
        have q : ((s[0].toNat : Int) == 48) = true := by rw [hz]; rfl
        clear hlen hz
        go_enter Tryd.func36, Tryd.ntmps36
        go_wp2
        go_ret2
        exact ⟨ret_wid (a := 0) H.out, rfl⟩
      · have H0 := Lib.hid (show ¬ (s.data.toList.length < 1 ∨ 5 < s.data.toList.length ∨ s.data.toList.head? = some 48) from by
          rw [hlen, head_get s h0]; rintro (h | h | h)
          · omega
          · omega
          · exact hz (Option.some.inj h))
        have q : ((s[0].toNat : Int) == 48) = false := beq_false_i (fun h => hz (by rw [← UInt8.toNat_inj]; simp; omega))
        have hLen := Lib.hid hlen
        clear hlen hz
        go_enter Tryd.func36, Tryd.ntmps36
        go_wp2
        go_loop [4, 5] (fun v4 v23 => ∃ k n : Nat, v4 = .int .i64 n ∧ v23 = .int .i64 k ∧ k ≤ s.size ∧ Hid (WAt s.data.toList k n) ∧ n ≤ 100000) (fun _ v => s.size - (intOf v).toNat)
        case atStart => exact ⟨0, 0, rfl, rfl, Nat.zero_le _, ⟨rfl, by simp⟩, by omega⟩
        case round =>
          obtain ⟨k, n, rfl, rfl, hk, hW, hn⟩ := hrel
          by_cases hlt : k < s.size
          · have hc6 : (s[k].toNat : Int) < 256 := by have := s[k].toNat_lt; omega
            have D0 : Hid (s.data.toList.drop k = s[k] :: s.data.toList.drop (k + 1)) := drop_cons s k hlt
            go_wp2
            all_goals first
              | (go_ret2; refine ⟨?_, rfl⟩; refine ret_wid (a := 0) (wid_none ?_); rw [hW.out.1, D0.out, wd_cons, if_pos (by omega)])
              | (refine ⟨⟨k + 1, 10 * n + (s[k].toNat - 48), by go_num, by go_num, by omega, ⟨by rw [hW.out.1, D0.out, wd_cons, if_neg (by omega)], ?_⟩, ?_⟩, by simp [intOf]; omega⟩ <;> (have hp := hW.out.2; have hq : (10 : Nat) ^ k ≤ 10 ^ 4 := Nat.pow_le_pow_right (by omega) (by omega); have hr := Nat.pow_succ 10 k; omega))
          · have hke : Hid (k = s.size) := (by omega : k = s.size)
            go_wp2
            go_ret2
            have hv : wd 0 s.data.toList = some n := by rw [hW.out.1, List.drop_of_length_le (by rw [hLen.out]; omega)]; rfl
            refine ⟨?_, rfl⟩
            rw [← ret_wid (wid_some H0.out hv), show decide (n ≤ 65535) = decide ((n : Int) ≤ 65535) from by simp only [decide_eq_decide]; omega]
            rfl

theorem cut1_join (c : UInt8) : ∀ l : List UInt8, (cut1 c l).2.2 = true → l = (cut1 c l).1 ++ c :: (cut1 c l).2.1
  | [], h => by simp [cut1] at h
  | x :: r, h => by
    by_cases hx : x = c
    · simp [cut1, hx]
    · simp only [cut1, if_neg hx] at h ⊢
      rw [List.cons_append, ← cut1_join c r h]
theorem evt_gap : evt [115, 116, 111, 114, 101, 32, 103, 97, 112] = (3, [], 0, 1, true) := by decide +kernel
theorem evt_rope : evt [115, 116, 111, 114, 101, 32, 114, 111, 112, 101] = (3, [], 0, 2, true) := by decide +kernel
theorem evt_type (b : List UInt8) : evt ([116, 121, 112, 101, 32] ++ b) = (1, (unpR b).1, 0, 0, (unpR b).2) := by
  have : cut1 32 ([116, 121, 112, 101, 32] ++ b) = ([116, 121, 112, 101], b, true) := by simp [cut1]
  unfold evt; rw [this]; simp
theorem evt_width (b : List UInt8) : evt ([119, 105, 100, 116, 104, 32] ++ b) = (2, [], ((wid b).1 : Int), 0, (wid b).2) := by
  have : cut1 32 ([119, 105, 100, 116, 104, 32] ++ b) = ([119, 105, 100, 116, 104], b, true) := by simp [cut1]
  unfold evt; rw [this]; simp
theorem evt_no {l : List UInt8} (h1 : l ≠ [115, 116, 111, 114, 101, 32, 103, 97, 112]) (h2 : l ≠ [115, 116, 111, 114, 101, 32, 114, 111, 112, 101]) (h3 : l.take 5 ≠ [116, 121, 112, 101, 32]) (h4 : l.take 6 ≠ [119, 105, 100, 116, 104, 32]) : evt l = (0, [], 0, 0, false) := by
  unfold evt
  by_cases ho : (cut1 32 l).2.2 = true
  · have hj := cut1_join 32 l ho
    rw [if_pos ho]
    by_cases a1 : (cut1 32 l).1 = [116, 121, 112, 101]
    · rw [a1] at hj; exact absurd (by rw [hj]; rfl) h3
    rw [if_neg a1]
    by_cases a2 : (cut1 32 l).1 = [119, 105, 100, 116, 104]
    · rw [a2] at hj; exact absurd (by rw [hj]; rfl) h4
    rw [if_neg a2]
    by_cases a3 : (cut1 32 l).1 = [115, 116, 111, 114, 101]
    · rw [if_pos a3]
      by_cases b1 : (cut1 32 l).2.1 = [103, 97, 112]
      · rw [a3, b1] at hj; exact absurd hj h1
      rw [if_neg b1]
      by_cases b2 : (cut1 32 l).2.1 = [114, 111, 112, 101]
      · rw [a3, b2] at hj; exact absurd hj h2
      rw [if_neg b2]
    · rw [if_neg a3]
  · rw [if_neg ho]
theorem toList_ne {s : ByteArray} {p : List UInt8} (h : (s.toList == p) = false) : s.data.toList ≠ p := by
  have := list_bne h
  rwa [Lib.toList_data] at this
theorem toList_eq {s : ByteArray} {p : List UInt8} (h : (s.toList == p) = true) : s.data.toList = p := by
  have := list_beq h
  rwa [Lib.toList_data] at this
theorem evt_type' {l : List UInt8} {Y X : ByteArray} (h : (Y.toList == [116, 121, 112, 101, 32]) = true) (hY : Y.data.toList = l.take 5) (hX : X.data.toList = l.drop 5) : evt l = (1, (unpR X.data.toList).1, 0, 0, (unpR X.data.toList).2) := by
  rw [hX, ← evt_type, ← toList_eq h, hY, List.take_append_drop]
theorem evt_width' {l : List UInt8} {Y X : ByteArray} (h : (Y.toList == [119, 105, 100, 116, 104, 32]) = true) (hY : Y.data.toList = l.take 6) (hX : X.data.toList = l.drop 6) : evt l = (2, [], ((wid X.data.toList).1 : Int), 0, (wid X.data.toList).2) := by
  rw [hX, ← evt_width, ← toList_eq h, hY, List.take_append_drop]
theorem take_short {l p : List UInt8} {n : Nat} (h : l.length < n) (hp : p.length = n) : l.take n ≠ p := by
  intro e; rw [← e, List.length_take] at hp; omega
theorem ret_ev {l : List UInt8} {k n t : Int} {b : List UInt8} {ok : Bool} (h : evt l = (k, b, n, t, ok)) : Ending.returned (.tuple #[.agg #[.int .i64 k, .string ⟨b.toArray⟩, .int .i64 n, .int .i64 t], .bool ok]) = .returned (evR l) := by rw [evR_of h]

set_option maxHeartbeats 4000000 in
set_option maxRecDepth 100000 in
theorem revent_calls (s : ByteArray) (w : World) (hs : s.size ≤ 1000000000) :
    Calls Tryd.prog 24 #[.string s] w fun e w' => e = .returned (evR s.data.toList) ∧ Below w.heap.size w w' := by
  have hx5 : (s.extract 5 s.size).size ≤ 1000000000 := by simp; omega
  have hx6 : (s.extract 6 s.size).size ≤ 1000000000 := by simp; omega
  have hLen := Lib.hid (size_len s)
  have hX5 : Hid ((s.extract 5 s.size).data.toList = s.data.toList.drop 5) := Lib.extract_to_end s 5
  have hX6 : Hid ((s.extract 6 s.size).data.toList = s.data.toList.drop 6) := Lib.extract_to_end s 6
  have hY5 : Hid ((s.extract 0 5).data.toList = s.data.toList.take 5) := by show _ = _; rw [Lib.extract_data]; simp
  have hY6 : Hid ((s.extract 0 6).data.toList = s.data.toList.take 6) := by show _ = _; rw [Lib.extract_data]; simp
  obtain ⟨X5, e5⟩ : ∃ X, s.extract 5 s.size = X := ⟨_, rfl⟩
  obtain ⟨X6, e6⟩ : ∃ X, s.extract 6 s.size = X := ⟨_, rfl⟩
  obtain ⟨Y5, f5⟩ : ∃ X, s.extract 0 5 = X := ⟨_, rfl⟩
  obtain ⟨Y6, f6⟩ : ∃ X, s.extract 0 6 = X := ⟨_, rfl⟩
  rw [e5] at hx5 hX5
  rw [e6] at hx6 hX6
  rw [f5] at hY5
  rw [f6] at hY6
  by_cases g1 : s.data.toList = [115, 116, 111, 114, 101, 32, 103, 97, 112]
  · have H : Hid (evt s.data.toList = _) := (congrArg evt g1).trans evt_gap
    have q1 : (s.toList == [115, 116, 111, 114, 101, 32, 103, 97, 112]) = true := by rw [Lib.toList_data, g1]; rfl
    clear g1
    go_enter Tryd.func24, Tryd.ntmps24
    go_wp2
    refine bodyPost_ret (v := .tuple #[.agg #[.int .i64 3, .string ⟨#[]⟩, .int .i64 0, .int .i64 1], .bool true]) (by simp [results, Tryd.results24, go_sem]) rfl ⟨ret_ev H.out, ?_⟩
    repeat (with_reducible first | refine bel_drewN ?_ _ | refine bel_alloc ?_ _ | refine bel_set ?_ (Nat.le_refl _) _ | exact Below.refl _ _)
  have q1 : (s.toList == [115, 116, 111, 114, 101, 32, 103, 97, 112]) = false := by rw [Lib.toList_data]; simpa using g1
  by_cases g2 : s.data.toList = [115, 116, 111, 114, 101, 32, 114, 111, 112, 101]
  · have H : Hid (evt s.data.toList = _) := (congrArg evt g2).trans evt_rope
    have q2 : (s.toList == [115, 116, 111, 114, 101, 32, 114, 111, 112, 101]) = true := by rw [Lib.toList_data, g2]; rfl
    clear g1 g2
    go_enter Tryd.func24, Tryd.ntmps24
    go_wp2
    refine bodyPost_ret (v := .tuple #[.agg #[.int .i64 3, .string ⟨#[]⟩, .int .i64 0, .int .i64 2], .bool true]) (by simp [results, Tryd.results24, go_sem]) rfl ⟨ret_ev H.out, ?_⟩
    repeat (with_reducible first | refine bel_drewN ?_ _ | refine bel_alloc ?_ _ | refine bel_set ?_ (Nat.le_refl _) _ | exact Below.refl _ _)
  have q2 : (s.toList == [115, 116, 111, 114, 101, 32, 114, 111, 112, 101]) = false := by rw [Lib.toList_data]; simpa using g2
  replace g1 := Lib.hid g1
  replace g2 := Lib.hid g2
  by_cases h5 : s.size < 5
  · have H : Hid (evt s.data.toList = _) := evt_no g1.out g2.out (take_short (by rw [hLen.out]; omega) rfl) (take_short (by rw [hLen.out]; omega) rfl)
    have z5 : (s.size : Int) < 5 := by omega
    have z6 : (s.size : Int) < 6 := by omega
    go_enter Tryd.func24, Tryd.ntmps24
    go_wp2
    refine bodyPost_ret (v := .tuple #[.agg #[.int .i64 0, .string ⟨#[]⟩, .int .i64 0, .int .i64 0], .bool false]) (by simp [results, Tryd.results24, go_sem]) rfl ⟨ret_ev H.out, ?_⟩
    repeat (with_reducible first | refine bel_drewN ?_ _ | refine bel_alloc ?_ _ | refine bel_set ?_ (Nat.le_refl _) _ | exact Below.refl _ _)
  have z5 : 5 ≤ (s.size : Int) := by omega
  by_cases g3 : (Y5.toList == [116, 121, 112, 101, 32]) = true
  · have H : Hid (evt s.data.toList = _) := evt_type' g3 hY5.out hX5.out
    go_enter Tryd.func24, Tryd.ntmps24
    go_wp2_with (first
      | (go_at_call 35; refine (bytes_calls X5 _ hx5).mono ?_; rintro e wz ⟨rfl, hb⟩; obtain ⟨hc, hf⟩ := bcell hb))
    refine bodyPost_ret (v := .tuple #[.agg #[.int .i64 1, .string ⟨(unpR X5.data.toList).1.toArray⟩, .int .i64 0, .int .i64 0], .bool (unpR X5.data.toList).2]) (by simp [results, Tryd.results24, go_sem, hc]) rfl ⟨ret_ev H.out, ?_⟩
    repeat (with_reducible first | refine bel_call ?_ hb | refine bel_drewN ?_ _ | refine bel_alloc ?_ _ | refine bel_set ?_ (Nat.le_refl _) _ | exact Below.refl _ _)
  replace g3 := Bool.eq_false_iff.mpr g3
  by_cases h6 : s.size < 6
  · have H : Hid (evt s.data.toList = _) := evt_no g1.out g2.out (hY5.out ▸ toList_ne g3) (take_short (by rw [hLen.out]; omega) rfl)
    have z6 : (s.size : Int) < 6 := by omega
    go_enter Tryd.func24, Tryd.ntmps24
    go_wp2
    refine bodyPost_ret (v := .tuple #[.agg #[.int .i64 0, .string ⟨#[]⟩, .int .i64 0, .int .i64 0], .bool false]) (by simp [results, Tryd.results24, go_sem]) rfl ⟨ret_ev H.out, ?_⟩
    repeat (with_reducible first | refine bel_drewN ?_ _ | refine bel_alloc ?_ _ | refine bel_set ?_ (Nat.le_refl _) _ | exact Below.refl _ _)
  have z6 : 6 ≤ (s.size : Int) := by omega
  by_cases g4 : (Y6.toList == [119, 105, 100, 116, 104, 32]) = true
  · have H : Hid (evt s.data.toList = _) := evt_width' g4 hY6.out hX6.out
    go_enter Tryd.func24, Tryd.ntmps24
    go_wp2_with (first
      | (go_at_call 36; refine (rwidth_calls X6 _ hx6).mono ?_; rintro e wz ⟨rfl, rfl⟩))
    refine bodyPost_ret (v := .tuple #[.agg #[.int .i64 2, .string ⟨#[]⟩, .int .i64 (wid X6.data.toList).1, .int .i64 0], .bool (wid X6.data.toList).2]) (by simp [results, Tryd.results24, go_sem]) rfl ⟨ret_ev H.out, ?_⟩
    repeat (with_reducible first | refine bel_drewN ?_ _ | refine bel_alloc ?_ _ | refine bel_set ?_ (Nat.le_refl _) _ | exact Below.refl _ _)
  replace g4 := Bool.eq_false_iff.mpr g4
  have H : Hid (evt s.data.toList = _) := evt_no g1.out g2.out (hY5.out ▸ toList_ne g3) (hY6.out ▸ toList_ne g4)
  go_enter Tryd.func24, Tryd.ntmps24
  go_wp2
  refine bodyPost_ret (v := .tuple #[.agg #[.int .i64 0, .string ⟨#[]⟩, .int .i64 0, .int .i64 0], .bool false]) (by simp [results, Tryd.results24, go_sem]) rfl ⟨ret_ev H.out, ?_⟩
  repeat (with_reducible first | refine bel_drewN ?_ _ | refine bel_alloc ?_ _ | refine bel_set ?_ (Nat.le_refl _) _ | exact Below.refl _ _)
end Go.Proofs.YtibgefampokfkaaDoor.Sc
