/- meta, unknown, plain, ss3: walked. -/
import Derived.Test.YtjjilhfebkeoeaaDoorKyC
import Derived.RegionTactic
import Derived.StillTailTactics
import Derived.ChangeAlike
namespace Go.Proofs.YtjjilhfebkeoeaaDoor.Ky
open Go Go.RowKit
open Go.Proofs.YtjjilhfebkeoeaaDoor.Wk (bcell bel_drew bel_drewN bel_alloc bel_set bel_call size_len mk_data beq_true_i bne_true_i bne_false_i beq_false_i drop_cons var_below)
set_option linter.unusedVariables false
set_option linter.unusedSimpArgs false

theorem bel6 {w W : World} (h : Below w.heap.size w W) {v0 v1 v2 v3 v4 v5 : Value} {b : Nat} (hb : w.heap.size ≤ b) {i0 i1 i2 i3 i4 i5 : Nat} : Below w.heap.size w ((((((W.setCell ⟨b, i0, none⟩ v0).setCell ⟨b, i1, none⟩ v1).setCell ⟨b, i2, none⟩ v2).setCell ⟨b, i3, none⟩ v3).setCell ⟨b, i4, none⟩ v4).setCell ⟨b, i5, none⟩ v5) :=
  bel_set (bel_set (bel_set (bel_set (bel_set (bel_set h hb _) hb _) hb _) hb _) hb _) hb _
theorem bel_ca {w wz : World} {o : Obj} (hb : Below (w.alloc o).heap.size (w.alloc o) wz) : Below w.heap.size w wz := bel_call (bel_alloc (Below.refl _ _) _) hb
theorem bel_a (w : World) (o : Obj) : Below w.heap.size w (w.alloc o) := bel_alloc (Below.refl _ _) _
theorem clone_calls (s : ByteArray) (w : World) (hs : s.size ≤ 1000000000) : Calls Tryd.prog 49 #[.string s] w fun e w' => e = .returned (.string s) ∧ Below w.heap.size w w' := by
  have HS := Lib.hid (show s.size ≤ 281474976710656 from by omega)
  clear hs
  go_enter Tryd.func49, Tryd.ntmps49
  go_wp2_with (go_at_call 67; (with_reducible refine (Tryd.stringslite_Clone s _ HS.out).mono ?_); rintro e wz ⟨rfl, hb⟩)
  go_ret
  exact ⟨rfl, hb⟩
theorem ret_un' {s : ByteArray} {n : Int} (h : (s.size : Int) = n) : Ending.returned (.tuple #[.agg #[.int .i64 18, .int .i32 0, .bool false, .bool false, .bool false, .string s], .int .i64 n]) = .returned (knV (unknown s.data.toList)) := by
  unfold knV unknown keyV
  rw [size_len, h]
set_option maxRecDepth 100000 in
theorem unknown_calls (s : ByteArray) (w : World) (hs : s.size ≤ 1000000000) : Calls Tryd.prog 74 #[.string s] w fun e w' => e = .returned (knV (unknown s.data.toList)) ∧ Below w.heap.size w w' := by
  have HS := Lib.hid hs
  clear hs
  go_enter Tryd.func74, Tryd.ntmps74
  go_wp2_with (go_at_call 49; (with_reducible refine (clone_calls s _ HS.out).mono ?_); rintro e wz ⟨rfl, hb⟩; obtain ⟨hc, hf⟩ := bcell hb; have hz' := lt_alloc hb)
  refine bodyPost_ret (v := .tuple #[.agg #[.int .i64 18, .int .i32 0, .bool false, .bool false, .bool false, .string s], .int .i64 s.size]) (by simp [results, Tryd.results74, go_sem, hc, hz']) rfl ⟨ret_un' rfl, ?_⟩
  exact bel6 (bel_ca hb) (Nat.le_refl _)
set_option maxRecDepth 100000 in
theorem meta_calls (c : Int) (w : World) : Calls Tryd.prog 76 #[.int .i32 c] w fun e w' => e = .returned (knV (withM c)) ∧ Below w.heap.size w w' := by
  go_enter Tryd.func76, Tryd.ntmps76
  go_wp2
  refine bodyPost_ret (v := .tuple #[.agg #[.int .i64 1, .int .i32 c, .bool false, .bool true, .bool false, .string ⟨#[]⟩], .int .i64 2]) (by simp [results, Tryd.results76, go_sem]) rfl ⟨rfl, ?_⟩
  exact bel_a _ _
theorem head_of (s : ByteArray) (h0 : 0 < s.size) : ∃ r, s.data.toList = s[0] :: r := ⟨_, by have := drop_cons s 0 h0; rw [List.drop_zero] at this; exact this⟩
theorem take1 (s : ByteArray) (h0 : 0 < s.size) : (s.extract 0 1).data.toList = [s[0]] := by
  obtain ⟨r, hl⟩ := head_of s h0
  rw [Lib.extract_data, hl]; rfl
set_option maxHeartbeats 1000000 in
set_option maxRecDepth 100000 in
theorem plain_p1 (last : Bool) (s : ByteArray) (h0 : 0 < s.size) (w : World) (HT : Hid (Tb w)) (hc : (s[0].toNat : Int) < 256) (hz : (0 : Int) < s.size) (q1 : ((s[0].toNat : Int) == 127) = true) (H : Hid (plain last s.data.toList = (⟨2, 63, true, false, false, []⟩, 1))) :
    Calls Tryd.prog 52 #[.string s, .bool last] w fun e w' => e = .returned (knV (plain last s.data.toList)) ∧ Below w.heap.size w w' := by
  go_enter Tryd.func52, Tryd.ntmps52
  go_wp2
  refine bodyPost_ret (v := .tuple #[.agg #[.int .i64 2, .int .i32 63, .bool true, .bool false, .bool false, .string ⟨#[]⟩], .int .i64 1]) (by simp [results, Tryd.results52, go_sem]) rfl ⟨ret_kn H.out, bel_a _ _⟩
set_option maxHeartbeats 1000000 in
set_option maxRecDepth 100000 in
theorem plain_p2 (last : Bool) (s : ByteArray) (h0 : 0 < s.size) (w : World) (HT : Hid (Tb w)) (hc : (s[0].toNat : Int) < 256) (hz : (0 : Int) < s.size) (q1 : ((s[0].toNat : Int) == 127) = false) (h2' : (s[0].toNat : Int) < 32) (H : Hid (plain last s.data.toList = (⟨2, (s[0].toNat : Int) + 64, true, false, false, []⟩, 1))) :
    Calls Tryd.prog 52 #[.string s, .bool last] w fun e w' => e = .returned (knV (plain last s.data.toList)) ∧ Below w.heap.size w w' := by
  go_enter Tryd.func52, Tryd.ntmps52
  go_wp2
  refine bodyPost_ret (v := .tuple #[.agg #[.int .i64 2, .int .i32 (s[0].toNat + 64), .bool true, .bool false, .bool false, .string ⟨#[]⟩], .int .i64 1]) (by simp [results, Tryd.results52, go_sem]) rfl ⟨ret_kn H.out, bel_a _ _⟩
set_option maxHeartbeats 1000000 in
set_option maxRecDepth 100000 in
theorem plain_p3 (last : Bool) (s : ByteArray) (h0 : 0 < s.size) (w : World) (HT : Hid (Tb w)) (hc : (s[0].toNat : Int) < 256) (hz : (0 : Int) < s.size) (q1 : ((s[0].toNat : Int) == 127) = false) (h2' : 32 ≤ (s[0].toNat : Int)) (HB : Hid (begun s.data.toList = true)) (H : Hid (plain false s.data.toList = (key0, 0))) :
    Calls Tryd.prog 52 #[.string s, .bool false] w fun e w' => e = .returned (knV (plain false s.data.toList)) ∧ Below w.heap.size w w' := by
  go_enter Tryd.func52, Tryd.ntmps52
  go_wp2_with (go_at_call 73; (with_reducible refine (begun_calls s h0 _ (HT.out.below (bel_a _ _))).mono ?_); rintro e wz ⟨rfl, hb⟩; obtain ⟨hc', hf⟩ := bcell hb; have hz' := lt_alloc hb; rw [HB.out])
  refine bodyPost_ret (v := .tuple #[.agg #[.int .i64 0, .int .i32 0, .bool false, .bool false, .bool false, .string ⟨#[]⟩], .int .i64 0]) (by simp [results, Tryd.results52, go_sem, hc', hz']) rfl ⟨ret_kn (k' := key0) H.out, bel6 (bel_ca hb) (Nat.le_refl _)⟩
set_option maxHeartbeats 1000000 in
set_option maxRecDepth 100000 in
theorem plain_p4 (last : Bool) (s : ByteArray) (h0 : 0 < s.size) (w : World) (HT : Hid (Tb w)) (hc : (s[0].toNat : Int) < 256) (hz : (0 : Int) < s.size) (q1 : ((s[0].toNat : Int) == 127) = false) (h2' : 32 ≤ (s[0].toNat : Int)) (h3 : (fst s.data.toList).1 < 0) (HB : Hid (begun s.data.toList = false)) (H : Hid (plain false s.data.toList = (⟨4, 0, false, false, false, (s.extract 0 1).data.toList⟩, 1))) :
    Calls Tryd.prog 52 #[.string s, .bool false] w fun e w' => e = .returned (knV (plain false s.data.toList)) ∧ Below w.heap.size w w' := by
  go_enter Tryd.func52, Tryd.ntmps52
  go_wp2_with (first
    | (go_at_call 73; (with_reducible refine (begun_calls s h0 _ (HT.out.below (bel_a _ _))).mono ?_); rintro e wz ⟨rfl, hb⟩; obtain ⟨hc', hf⟩ := bcell hb; have hz' := lt_alloc hb; rw [HB.out])
    | (go_at_call 70; (with_reducible refine (at0 s h0 _ (HT.out.below (bel_ca hb))).mono ?_); rintro e wy ⟨rfl, hb2⟩; obtain ⟨hc2, hf2⟩ := bcell hb2; have hy' := lt_next hz' hb2; unfold unV))
  refine bodyPost_ret (v := .tuple #[.agg #[.int .i64 4, .int .i32 0, .bool false, .bool false, .bool false, .string (s.extract 0 1)], .int .i64 1]) (by simp [results, Tryd.results52, go_sem, hc', hz', hc2, hy']) rfl ⟨ret_kn H.out, bel_alloc (bel6 (bel_call (bel_ca hb) hb2) (Nat.le_refl _)) _⟩
set_option maxHeartbeats 1000000 in
set_option maxRecDepth 100000 in
theorem plain_p5 (last : Bool) (s : ByteArray) (h0 : 0 < s.size) (w : World) (HT : Hid (Tb w)) (hc : (s[0].toNat : Int) < 256) (hz : (0 : Int) < s.size) (q1 : ((s[0].toNat : Int) == 127) = false) (h2' : 32 ≤ (s[0].toNat : Int)) (h3 : (fst s.data.toList).1 < 0) (H : Hid (plain true s.data.toList = (⟨4, 0, false, false, false, (s.extract 0 1).data.toList⟩, 1))) :
    Calls Tryd.prog 52 #[.string s, .bool true] w fun e w' => e = .returned (knV (plain true s.data.toList)) ∧ Below w.heap.size w w' := by
  go_enter Tryd.func52, Tryd.ntmps52
  go_wp2_with (go_at_call 70; (with_reducible refine (at0 s h0 _ (HT.out.below (bel_a _ _))).mono ?_); rintro e wy ⟨rfl, hb2⟩; obtain ⟨hc2, hf2⟩ := bcell hb2; have hy' := lt_alloc hb2; unfold unV)
  refine bodyPost_ret (v := .tuple #[.agg #[.int .i64 4, .int .i32 0, .bool false, .bool false, .bool false, .string (s.extract 0 1)], .int .i64 1]) (by simp [results, Tryd.results52, go_sem, hc2, hy']) rfl ⟨ret_kn H.out, bel_alloc (bel6 (bel_ca hb2) (Nat.le_refl _)) _⟩
set_option maxHeartbeats 1000000 in
set_option maxRecDepth 100000 in
theorem plain_p7 (s : ByteArray) (h0 : 0 < s.size) (w : World) (HT : Hid (Tb w)) (hc : (s[0].toNat : Int) < 256) (hz : (0 : Int) < s.size) (q1 : ((s[0].toNat : Int) == 127) = false) (h2' : 32 ≤ (s[0].toNat : Int)) (h3 : 0 ≤ (fst s.data.toList).1) (H : Hid (plain true s.data.toList = (⟨1, (fst s.data.toList).1, false, false, false, []⟩, (fst s.data.toList).2))) :
    Calls Tryd.prog 52 #[.string s, .bool true] w fun e w' => e = .returned (knV (plain true s.data.toList)) ∧ Below w.heap.size w w' := by
  go_enter Tryd.func52, Tryd.ntmps52
  go_wp2_with (go_at_call 70; (with_reducible refine (at0 s h0 _ (HT.out.below (bel_a _ _))).mono ?_); rintro e wy ⟨rfl, hb2⟩; obtain ⟨hc2, hf2⟩ := bcell hb2; have hy' := lt_alloc hb2; unfold unV)
  have hne : ¬ wy.heap.size = w.heap.size := by omega
  go_region
  all_goals (try go_wp2)
  all_goals refine bodyPost_ret (v := .tuple #[.agg #[.int .i64 1, .int .i32 (fst s.data.toList).1, .bool false, .bool false, .bool false, .string ⟨#[]⟩], .int .i64 (fst s.data.toList).2]) (by simp [results, Tryd.results52, go_sem, hc2, hy']) rfl ⟨ret_kn H.out, bel_drew (bel_alloc (bel6 (bel_ca hb2) (Nat.le_refl _)) _)⟩
set_option maxHeartbeats 1000000 in
set_option maxRecDepth 100000 in
theorem plain_p6 (s : ByteArray) (h0 : 0 < s.size) (w : World) (HT : Hid (Tb w)) (hc : (s[0].toNat : Int) < 256) (hz : (0 : Int) < s.size) (q1 : ((s[0].toNat : Int) == 127) = false) (h2' : 32 ≤ (s[0].toNat : Int)) (h3 : 0 ≤ (fst s.data.toList).1) (HB : Hid (begun s.data.toList = false)) (H : Hid (plain false s.data.toList = (⟨1, (fst s.data.toList).1, false, false, false, []⟩, (fst s.data.toList).2))) :
    Calls Tryd.prog 52 #[.string s, .bool false] w fun e w' => e = .returned (knV (plain false s.data.toList)) ∧ Below w.heap.size w w' := by
  go_enter Tryd.func52, Tryd.ntmps52
  go_wp2_with (first
    | (go_at_call 73; (with_reducible refine (begun_calls s h0 _ (HT.out.below (bel_a _ _))).mono ?_); rintro e wz ⟨rfl, hb⟩; obtain ⟨hc', hf⟩ := bcell hb; have hz' := lt_alloc hb; rw [HB.out])
    | (go_at_call 70; (with_reducible refine (at0 s h0 _ (HT.out.below (bel_ca hb))).mono ?_); rintro e wy ⟨rfl, hb2⟩; obtain ⟨hc2, hf2⟩ := bcell hb2; have hy' := lt_next hz' hb2; unfold unV))
  have hne : ¬ wy.heap.size = w.heap.size := by omega
  go_region
  all_goals (try go_wp2)
  all_goals refine bodyPost_ret (v := .tuple #[.agg #[.int .i64 1, .int .i32 (fst s.data.toList).1, .bool false, .bool false, .bool false, .string ⟨#[]⟩], .int .i64 (fst s.data.toList).2]) (by simp [results, Tryd.results52, go_sem, hc', hz', hc2, hy']) rfl ⟨ret_kn H.out, bel_drew (bel_alloc (bel6 (bel_call (bel_ca hb) hb2) (Nat.le_refl _)) _)⟩
theorem plain_calls (last : Bool) (s : ByteArray) (h0 : 0 < s.size) (w : World) (hT : Tb w) :
    Calls Tryd.prog 52 #[.string s, .bool last] w fun e w' => e = .returned (knV (plain last s.data.toList)) ∧ Below w.heap.size w w' := by
  obtain ⟨r, hl⟩ := head_of s h0
  have hc : (s[0].toNat : Int) < 256 := by have := s[0].toNat_lt; omega
  have hz : (0 : Int) < s.size := by omega
  by_cases h1 : s[0].toNat = 127
  · exact plain_p1 last s h0 w (Lib.hid hT) hc hz (beq_true_i (by omega)) (by show _ = _; rw [hl]; exact plain_del last r h1)
  have q1 : ((s[0].toNat : Int) == 127) = false := beq_false_i (by omega)
  by_cases h2 : s[0].toNat < 32
  · exact plain_p2 last s h0 w (Lib.hid hT) hc hz q1 (by omega) (by show _ = _; rw [hl]; exact plain_ctl last r h1 h2)
  have h2' : 32 ≤ (s[0].toNat : Int) := by omega
  cases last
  · cases hb : begun s.data.toList
    · have hb' := hb
      rw [hl] at hb'
      by_cases h3 : (fst s.data.toList).1 < 0
      · exact plain_p4 false s h0 w (Lib.hid hT) hc hz q1 h2' h3 hb (by show _ = _; rw [take1 s h0, hl]; exact plain_bad false r h1 h2 (.inr hb') (by rw [← hl]; exact h3))
      · exact plain_p6 s h0 w (Lib.hid hT) hc hz q1 h2' (by omega) hb (by show _ = _; rw [hl]; exact plain_chr false r h1 h2 (.inr hb') (by rw [← hl]; exact h3))
    · have hb' := hb
      rw [hl] at hb'
      exact plain_p3 false s h0 w (Lib.hid hT) hc hz q1 h2' hb (by show _ = _; rw [hl]; exact plain_wait r h1 h2 hb')
  · by_cases h3 : (fst s.data.toList).1 < 0
    · exact plain_p5 true s h0 w (Lib.hid hT) hc hz q1 h2' h3 (by show _ = _; rw [take1 s h0, hl]; exact plain_bad true r h1 h2 (.inl rfl) (by rw [← hl]; exact h3))
    · exact plain_p7 s h0 w (Lib.hid hT) hc hz q1 h2' (by omega) (by show _ = _; rw [hl]; exact plain_chr true r h1 h2 (.inl rfl) (by rw [← hl]; exact h3))
end Go.Proofs.YtjjilhfebkeoeaaDoor.Ky
