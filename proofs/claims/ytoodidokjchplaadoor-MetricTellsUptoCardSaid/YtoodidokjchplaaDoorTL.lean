/- MetricTells: walked. -/
import Derived.Test.YtoodidokjchplaaDoorCT
namespace Go.Proofs.YtoodidokjchplaaDoor.Un
open Go Go.RowKit Go.Shelf
open Go.Proofs.YtoodidokjchplaaDoor.Wk (bcell bel_drew bel_drewN bel_alloc bel_set bel_call size_len blk_cell blk_below blk_lt mk_data)
set_option linter.unusedVariables false
set_option linter.unusedSimpArgs false
attribute [local go_sem high] eqA26
theorem cnt_step (s : ByteArray) (i : Nat) (h : i < s.size) : (s.data.toList.take (i + 1)).count 10 = (s.data.toList.take i).count 10 + (if s[i] = 10 then 1 else 0) := by
  have hl : i < s.data.toList.length := by rw [size_len]; exact h
  rw [List.take_succ_eq_append_getElem hl, List.count_append, List.count_singleton]
  have e : s.data.toList[i] = s[i] := by simp; rfl
  rw [e]
  by_cases q : s[i] = 10
  · rw [if_pos q, q]; simp
  · rw [if_neg q]; simp [q]
set_option maxRecDepth 100000 in
set_option maxHeartbeats 4000000 in
theorem tells_calls (s : ByteArray) (hs : s.size ≤ 1000000000) (w : World) (hT : Tb w) :
    Calls Tryd.prog 5 #[.string s] w fun e w' => e = .returned (.bool true) ∧ Below w.heap.size w w' := by
  have HT := Lib.hid hT
  clear hT
  have hlen := size_len s
  have K := Lib.hid (fun W hW => counts_calls W hW)
  obtain ⟨u, hu⟩ : ∃ u, cU s.data.toList = u := ⟨_, rfl⟩
  obtain ⟨c, hc⟩ : ∃ c, cC s.data.toList = c := ⟨_, rfl⟩
  obtain ⟨x, hx⟩ : ∃ x, cX s.data.toList = x := ⟨_, rfl⟩
  obtain ⟨H, hH⟩ : ∃ H : ByteArray, ⟨(hd s.data.toList).toArray⟩ = H := ⟨_, rfl⟩
  obtain ⟨T, hTl⟩ : ∃ T : ByteArray, ⟨(tl s.data.toList).toArray⟩ = T := ⟨_, rfl⟩
  obtain ⟨N, hN⟩ : ∃ N, s.data.toList.count 10 = N := ⟨_, rfl⟩
  have e : mR s.data.toList = ⟨(s.size : Nat), (u : Nat), (c : Nat), x, (N : Nat), H, T⟩ := by unfold mR toR meas; simp only [hu, hc, hx, hH, hTl, hN, hlen]
  have M1 := Lib.hid (fun W hW => measR s hs e W hW)
  have U := Lib.hid (fun W => ucount_calls s hs W)
  have C := Lib.hid (fun W hW => count_calls s hs W hW)
  have X := Lib.hid (fun W hW => cellsum_calls s hs W hW)
  rw [hu] at U
  rw [hc] at C
  rw [hx] at X
  have HF := Lib.hid (show (hd s.data.toList).toArray = H.data ∧ (tl s.data.toList).toArray = T.data ∧ s.data.toList.count 10 = N ∧ s.data.toList.length = s.size from ⟨by rw [← hH], by rw [← hTl], hN, hlen⟩)
  clear hu hc hx hH hTl hN e hlen
  go_enter Tryd.func5, Tryd.ntmps5
  go_wp2_with (first
    | (go_at_call 15; (with_reducible refine (K.out _ HT.out).mono ?_); rintro e w1 ⟨rfl, k1⟩)
    | (go_at_call 19; (with_reducible refine (M1.out _ (HT.out.below k1)).mono ?_); rintro e w2 ⟨rfl, b2⟩; have k2 := bel_call k1 b2; clear b2))
  have h3 := heap_alloc_new w2 (.cells #[.int .i64 (s.size : Nat), .int .i64 (u : Nat), .int .i64 (c : Nat), .int .i64 x, .int .i64 (N : Nat), .string H, .string T] 26)
  have k3 := bel_alloc k2 (.cells #[.int .i64 (s.size : Nat), .int .i64 (u : Nat), .int .i64 (c : Nat), .int .i64 x, .int .i64 (N : Nat), .string H, .string T] 26)
  obtain ⟨W, hW⟩ : ∃ W, w2.alloc (.cells #[.int .i64 (s.size : Nat), .int .i64 (u : Nat), .int .i64 (c : Nat), .int .i64 x, .int .i64 (N : Nat), .string H, .string T] 26) = W := ⟨_, rfl⟩
  obtain ⟨B, hB⟩ : ∃ B, w2.heap.size = B := ⟨_, rfl⟩
  rw [hW] at h3 k3 ⊢
  rw [hB] at h3 ⊢
  clear hW hB k2 k1
  have HH := Lib.hid h3
  have HK := Lib.hid k3
  clear h3 k3
  go_loopw [4, 12] (fun v4 v12 wr => ∃ i : Nat, v12 = .int .i64 i ∧ i ≤ s.size ∧ v4 = .int .i64 ((s.data.toList.take i).count 10 : Nat) ∧ wr = W) (fun v4 v12 _ => s.size - (intOf v12).toNat)
  case atStart => exact ⟨0, rfl, by omega, by simp, rfl⟩
  case round =>
    obtain ⟨i, rfl, hi, rfl, rfl⟩ := hrel
    by_cases hlt : i < s.size
    · have hli : (i : Int) < s.size := by omega
      have hcn := Lib.hid (cnt_step s i hlt)
      obtain ⟨q, hq⟩ : ∃ q, (s.data.toList.take i).count 10 = q := ⟨_, rfl⟩
      have hqb : q ≤ s.size := by
        have h1 := List.count_le_length (a := (10 : UInt8)) (l := s.data.toList.take i)
        rw [List.length_take] at h1
        omega
      rw [hq] at hcn ⊢
      have hqw : IntKind.i64.wrap ((q : Int) + 1) = (q : Int) + 1 := w64_id (by omega)
      have hiw : IntKind.i64.wrap ((i : Int) + 1) = (i : Int) + 1 := w64_id (by omega)
      clear hq
      by_cases h10 : s[i] = 10
      · have ht : ((s[i].toNat : Int) == 10) = true := by rw [h10]; rfl
        have hcn' := hcn.out
        rw [if_pos h10] at hcn'
        replace hcn := Lib.hid hcn'
        clear hcn' h10
        go_wp2_with fail
        exact ⟨⟨i + 1, by go_num, by omega, by rw [hcn.out]; go_num, trivial⟩, by simp [intOf]; omega⟩
      · have ht : ((s[i].toNat : Int) == 10) = false := by
          have : s[i].toNat ≠ 10 := fun h => h10 (by rw [← UInt8.toNat_inj]; exact h)
          simp; omega
        have hcn' := hcn.out
        rw [if_neg h10] at hcn'
        replace hcn := Lib.hid hcn'
        clear hcn' h10
        go_wp2_with fail
        exact ⟨⟨i + 1, by go_num, by omega, by rw [hcn.out]; go_num, trivial⟩, by simp [intOf]; omega⟩
    · have hie : i = s.size := by omega
      have hcN : (s.data.toList.take i).count 10 = N := by rw [List.take_of_length_le (by rw [HF.out.2.2.2]; omega)]; exact HF.out.2.2.1
      rw [hcN]
      clear hcN
      go_upto_region 11 with fail
      have HB0 : BxR wr.drew B (s.size : Nat) (u : Nat) (c : Nat) x (N : Nat) H T := HH.out
      have k0 := bel_drew HK.out
      clear HH HK hi hlt hie K M1
      go_region_held3 (fun w' => w'.cell? ⟨B, 0, none⟩ = some (.int .i64 (s.size : Nat)) ∧ w'.cell? ⟨B, 1, none⟩ = some (.int .i64 (u : Nat)) ∧ w'.cell? ⟨B, 2, none⟩ = some (.int .i64 (c : Nat)) ∧ w'.cell? ⟨B, 3, none⟩ = some (.int .i64 x) ∧ w'.cell? ⟨B, 4, none⟩ = some (.int .i64 (N : Nat)) ∧ w'.cell? ⟨B, 5, none⟩ = some (.string H) ∧ w'.cell? ⟨B, 6, none⟩ = some (.string T))
        (exact BxR.cs HB0)
        (first
        | (go_at_call 20; (with_reducible refine (U.out _).mono ?_); rintro e wn ⟨rfl, bn⟩; have HB0 := blk_below HB0 bn; have k0 := bel_call k0 bn; clear bn)
        | (go_at_call 21; (with_reducible refine (C.out _ (HT.out.below k0)).mono ?_); rintro e wn ⟨rfl, bn⟩; have HB0 := blk_below HB0 bn; have k0 := bel_call k0 bn; clear bn)
        | (go_at_call 22; (with_reducible refine (X.out _ (HT.out.below k0)).mono ?_); rintro e wn ⟨rfl, bn⟩; have HB0 := blk_below HB0 bn; have k0 := bel_call k0 bn; clear bn))
      have HB1 := Lib.hid HB0
      have HK := Lib.hid k0
      obtain ⟨q0, q1, q2, q3, q4, q5, q6⟩ := BxR.cs HB0
      clear HB0 k0 U C X HT q0 q1 q2 q3 q4
      by_cases h16 : s.size ≤ 16
      · have h16' : (s.size : Int) ≤ 16 := by omega
        have e1 : (H.toList == s.toList) = true := by
          have h1 := HF.out.1
          unfold hd at h1
          rw [List.take_of_length_le (by rw [HF.out.2.2.2]; exact h16)] at h1
          rw [beq_iff_eq, Lib.toList_data, Lib.toList_data, ← h1]
        have e2 : (T.toList == s.toList) = true := by
          have h1 := HF.out.2.1
          unfold tl at h1
          rw [back_all (by rw [HF.out.2.2.2]; exact h16)] at h1
          rw [beq_iff_eq, Lib.toList_data, Lib.toList_data, ← h1]
        go_wp2_with fail
        go_ret
        exact ⟨rfl, HK.out⟩
      · have h16' : 16 < (s.size : Int) := by omega
        have hw16 : IntKind.i64.wrap ((s.size : Int) - 16) = (s.size : Int) - 16 := w64_id (by omega)
        have hn16 : ((s.size : Int) - 16).toNat = s.size - 16 := by omega
        have g16 : (16 : Int) ≤ s.size := by omega
        have g17 : (0 : Int) ≤ (s.size : Int) - 16 := by omega
        have g18 : (s.size : Int) - 16 ≤ s.size := by omega
        have e3 : (H.toList == (s.extract 0 16).toList) = true := by
          have h1 := HF.out.1
          unfold hd at h1
          rw [beq_iff_eq, Lib.toList_data, Lib.toList_data, ← h1, ByteArray.data_extract, Array.toList_extract]
          simp
        have e4 : (T.toList == (s.extract (s.size - 16) s.size).toList) = true := by
          have h1 := HF.out.2.1
          unfold tl back at h1
          rw [beq_iff_eq, Lib.toList_data, Lib.toList_data, ← h1, ByteArray.data_extract, Array.toList_extract]
          simp [HF.out.2.2.2]
          rw [List.take_of_length_le (by rw [List.length_drop, HF.out.2.2.2]; omega)]
        go_upto_region 15 with fail
        go_region
        go_wp2_with fail
        go_ret
        exact ⟨rfl, bel_drew HK.out⟩
end Go.Proofs.YtoodidokjchplaaDoor.Un
