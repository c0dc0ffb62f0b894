/- metric.Range and the reference's, of any ints; Whole of both: walked; MetricRanges. -/
import Derived.Test.YtoodidokjchplaaDoorRM
import Derived.Test.YtoodidokjchplaaDoorEN
namespace Go.Proofs.YtoodidokjchplaaDoor.Un
open Go Go.RowKit Go.Shelf
open Go.Proofs.YtoodidokjchplaaDoor.Wk (bcell bel_drew bel_drewN bel_alloc bel_set bel_call size_len blk_cell blk_below blk_lt mk_data cells_new)
set_option linter.unusedVariables false
set_option linter.unusedSimpArgs false
attribute [local go_sem high] eqA26
/-- The place i of a text of n bytes, clipped. -/
def clp (n : Nat) (i : Int) : Nat := (min (max i 0) (n : Int)).toNat
theorem clp_le (n : Nat) (i : Int) : clp n i ≤ n := by unfold clp; omega
theorem clp_eq (n : Nat) (i : Int) : min (max i 0) (n : Int) = (clp n i : Nat) := by unfold clp; omega
/-- What lies between two places. -/
def rgL (l : List UInt8) (i j : Int) : List UInt8 := (l.drop (clp l.length i)).take (clp l.length j - clp l.length i)
theorem rgL_none (l : List UInt8) (i j : Int) (h : clp l.length j ≤ clp l.length i) : rgL l i j = [] := by
  unfold rgL
  rw [show clp l.length j - clp l.length i = 0 by omega]; rfl
set_option maxRecDepth 100000 in
set_option maxHeartbeats 4000000 in
theorem rangeA_calls (s : ByteArray) (i j : Int) (hs : s.size ≤ 1000000000) {b u c x n : Int} {h t : ByteArray} (e : mR (rgL s.data.toList i j) = ⟨b, u, c, x, n, h, t⟩) (w : World) (hT : Tb w) :
    Calls Tryd.prog 25 #[.string s, .int .i64 i, .int .i64 j] w fun e w' => e = .returned (.agg #[.int .i64 b, .int .i64 u, .int .i64 c, .int .i64 x, .int .i64 n, .string h, .string t]) ∧ Below w.heap.size w w' := by
  have HT := Lib.hid hT
  have hlen := size_len s
  have p1 := clp_le s.size i
  have p2 := clp_le s.size j
  have q1 := clp_eq s.size i
  have q2 := clp_eq s.size j
  have hd : (s.extract (clp s.size i) (clp s.size j)).data.toList = rgL s.data.toList i j := by
    unfold rgL
    rw [hlen, ByteArray.data_extract, Array.toList_extract]
  have M1 := Lib.hid (fun W hW => measR (s.extract (clp s.size i) (clp s.size j)) (by rw [ByteArray.size_extract]; omega) ((congrArg mR hd).trans e) W hW)
  have M0 : clp s.size j < clp s.size i → Hid (∀ W, Tb W → Calls Tryd.prog 19 #[.string ⟨#[]⟩] W fun e w' => e = .returned (.agg #[.int .i64 b, .int .i64 u, .int .i64 c, .int .i64 x, .int .i64 n, .string h, .string t]) ∧ Below W.heap.size W w') := by
    intro hlt
    rw [rgL_none _ _ _ (by rw [hlen]; omega)] at e
    exact Lib.hid (fun W hW => measR ⟨#[]⟩ (by decide) e W hW)
  obtain ⟨I, hI⟩ : ∃ I, max i 0 = I := ⟨_, rfl⟩
  obtain ⟨J, hJ⟩ : ∃ J, max j 0 = J := ⟨_, rfl⟩
  obtain ⟨P, hP⟩ : ∃ P, clp s.size i = P := ⟨_, rfl⟩
  obtain ⟨Q, hQ⟩ : ∃ Q, clp s.size j = Q := ⟨_, rfl⟩
  rw [hP] at M0 M1 q1 p1
  rw [hQ] at M0 M1 q2 p2
  rw [hI] at q1
  rw [hJ] at q2
  clear hT e hd hP hQ hlen
  go_enter Tryd.func25, Tryd.ntmps25
  have k0 := bel_alloc (Below.refl _ w) (.cells #[.int .i64 0, .int .i64 0, .int .i64 0, .int .i64 0, .int .i64 0, .string ⟨#[]⟩, .string ⟨#[]⟩] 26)
  by_cases hPQ : Q < P
  · have m5 : (Q : Int) < P := by omega
    have M2 := M0 hPQ
    clear M0 M1
    go_wp2_with (first
      | (go_at_call 19; (with_reducible refine (M2.out _ (HT.out.below k0)).mono ?_); rintro e w1 ⟨rfl, k1⟩; have r1 : BxR w1 w.heap.size 0 0 0 0 0 ⟨#[]⟩ ⟨#[]⟩ := blk_below (heap_alloc_new w (.cells #[.int .i64 0, .int .i64 0, .int .i64 0, .int .i64 0, .int .i64 0, .string ⟨#[]⟩, .string ⟨#[]⟩] 26)) k1; have k2 := bel_call k0 k1; clear k1; obtain ⟨q0, q1, q2, q3, q4, q5, q6⟩ := r1.cs; have f0 := r1.fz 0; have f1 := r1.fz 1; have f2 := r1.fz 2; have f3 := r1.fz 3; have f4 := r1.fz 4; have f5 := r1.fz 5; have f6 := r1.fz 6))
    have hF := set7b (a0 := .int .i64 b) (a1 := .int .i64 u) (a2 := .int .i64 c) (a3 := .int .i64 x) (a4 := .int .i64 n) (a5 := .string h) (a6 := .string t) r1
    have hB := set7l (a0 := .int .i64 b) (a1 := .int .i64 u) (a2 := .int .i64 c) (a3 := .int .i64 x) (a4 := .int .i64 n) (a5 := .string h) (a6 := .string t) k2 (Nat.le_refl _)
    obtain ⟨d0, d1, d2, d3, d4, d5, d6⟩ := BxR.cs hF
    refine bodyPost_ret (v := .agg #[.int .i64 b, .int .i64 u, .int .i64 c, .int .i64 x, .int .i64 n, .string h, .string t]) (by simp [results, Tryd.results25, go_sem, d0, d1, d2, d3, d4, d5, d6]) rfl ⟨rfl, hB⟩
  · have m5 : ¬ ((Q : Int) < P) := by omega
    have m6 : (0 : Int) ≤ P := by omega
    have m7 : (P : Int) ≤ Q := by omega
    have m8 : (Q : Int) ≤ s.size := by omega
    clear M0
    go_wp2_with (first
      | (go_at_call 19; (with_reducible refine (M1.out _ (HT.out.below k0)).mono ?_); rintro e w1 ⟨rfl, k1⟩; have r1 : BxR w1 w.heap.size 0 0 0 0 0 ⟨#[]⟩ ⟨#[]⟩ := blk_below (heap_alloc_new w (.cells #[.int .i64 0, .int .i64 0, .int .i64 0, .int .i64 0, .int .i64 0, .string ⟨#[]⟩, .string ⟨#[]⟩] 26)) k1; have k2 := bel_call k0 k1; clear k1; obtain ⟨q0, q1, q2, q3, q4, q5, q6⟩ := r1.cs; have f0 := r1.fz 0; have f1 := r1.fz 1; have f2 := r1.fz 2; have f3 := r1.fz 3; have f4 := r1.fz 4; have f5 := r1.fz 5; have f6 := r1.fz 6))
    have hF := set7b (a0 := .int .i64 b) (a1 := .int .i64 u) (a2 := .int .i64 c) (a3 := .int .i64 x) (a4 := .int .i64 n) (a5 := .string h) (a6 := .string t) r1
    have hB := set7l (a0 := .int .i64 b) (a1 := .int .i64 u) (a2 := .int .i64 c) (a3 := .int .i64 x) (a4 := .int .i64 n) (a5 := .string h) (a6 := .string t) k2 (Nat.le_refl _)
    obtain ⟨d0, d1, d2, d3, d4, d5, d6⟩ := BxR.cs hF
    refine bodyPost_ret (v := .agg #[.int .i64 b, .int .i64 u, .int .i64 c, .int .i64 x, .int .i64 n, .string h, .string t]) (by simp [results, Tryd.results25, go_sem, d0, d1, d2, d3, d4, d5, d6]) rfl ⟨rfl, hB⟩
set_option maxRecDepth 100000 in
set_option maxHeartbeats 8000000 in
theorem rrange_calls (s : ByteArray) (i j : Int) (hs : s.size ≤ 1000000000) {b u c x n : Int} {h t : ByteArray} (e : mR (rgL s.data.toList i j) = ⟨b, u, c, x, n, h, t⟩) (w : World) :
    Calls Tryd.prog 26 #[.string s, .int .i64 i, .int .i64 j] w fun e w' => e = .returned (.agg #[.int .i64 b, .int .i64 u, .int .i64 c, .int .i64 x, .int .i64 n, .string h, .string t]) ∧ Below w.heap.size w w' := by
  have hlen := size_len s
  have p1 := clp_le s.size i
  have p2 := clp_le s.size j
  have hd : (s.extract (clp s.size i) (clp s.size j)).data.toList = rgL s.data.toList i j := by
    unfold rgL
    rw [hlen, ByteArray.data_extract, Array.toList_extract]
  have M1 := Lib.hid (fun (z : ByteArray) (hz : z = s.extract (clp s.size i) (clp s.size j)) W => rmeas_calls z (by rw [hz, ByteArray.size_extract]; omega) ((congrArg mR ((congrArg (fun z : ByteArray => z.data.toList) hz).trans hd)).trans e) W)
  have M0 : clp s.size j ≤ clp s.size i → (b = 0 ∧ u = 0 ∧ c = 0 ∧ x = 0 ∧ n = 0 ∧ h = ⟨#[]⟩ ∧ t = ⟨#[]⟩) := by
    intro hlt
    rw [rgL_none _ _ _ (by rw [hlen]; omega), mR_z] at e
    unfold Sr.z at e
    simp only [Sr.mk.injEq] at e
    obtain ⟨e0, e1, e2, e3, e4, e5, e6⟩ := e
    exact ⟨e0.symm, e1.symm, e2.symm, e3.symm, e4.symm, e5.symm, e6.symm⟩
  obtain ⟨P, hP⟩ : ∃ P, clp s.size i = P := ⟨_, rfl⟩
  obtain ⟨Q, hQ⟩ : ∃ Q, clp s.size j = Q := ⟨_, rfl⟩
  have q1 := clp_eq s.size i
  have q2 := clp_eq s.size j
  rw [hP] at M0 M1 q1 p1
  rw [hQ] at M0 M1 q2 p2
  have z0 : ¬ ((s.size : Int) < 0) := by omega
  have z1 : ¬ ((s.size : Int) < s.size) := by omega
  clear e hd hP hQ hlen
  have HQ := Lib.hid (show ((P : Nat) : Int) = min (max i 0) s.size ∧ ((Q : Nat) : Int) = min (max j 0) s.size ∧ P ≤ s.size ∧ Q ≤ s.size from ⟨q1.symm, q2.symm, p1, p2⟩)
  clear q1 q2 p1 p2
  replace M0 := Lib.hid M0
  go_enter Tryd.func26, Tryd.ntmps26
  go_upto_region 1 with fail
  have r0 : BxR (w.alloc (.cells #[.int .i64 0, .int .i64 0, .int .i64 0, .int .i64 0, .int .i64 0, .string ⟨#[]⟩, .string ⟨#[]⟩] 26)) w.heap.size 0 0 0 0 0 ⟨#[]⟩ ⟨#[]⟩ := heap_alloc_new w _
  have k0 := bel_alloc (Below.refl _ w) (.cells #[.int .i64 0, .int .i64 0, .int .i64 0, .int .i64 0, .int .i64 0, .string ⟨#[]⟩, .string ⟨#[]⟩] 26)
  obtain ⟨W1, hW1⟩ : ∃ W1, w.alloc (.cells #[.int .i64 0, .int .i64 0, .int .i64 0, .int .i64 0, .int .i64 0, .string ⟨#[]⟩, .string ⟨#[]⟩] 26) = W1 := ⟨_, rfl⟩
  rw [hW1] at r0 k0 ⊢
  clear hW1
  by_cases hi : i < 0
  · by_cases hj : (s.size : Int) < j
    · have m7 : (P : Int) ≤ Q := by have := HQ.out; omega
      have m9 : (0 : Int) ≤ P := by omega
      have m10 : (0 : Int) ≤ s.size := by omega
      have m11 : (s.size : Int) ≤ s.size := by omega
      have m8 : (Q : Int) ≤ s.size := by have := HQ.out; omega
      obtain rfl : P = 0 := by have := HQ.out; omega
      obtain rfl : Q = s.size := by have := HQ.out; omega
      clear M0
      go_wp2_with (first
        | (go_at_call 16; (with_reducible refine (M1.out _ ?_ _).mono ?_); (focus (first | (with_reducible rfl) | simp)); rintro e w1 ⟨rfl, k1⟩; have r1 : BxR w1 w.heap.size 0 0 0 0 0 ⟨#[]⟩ ⟨#[]⟩ := blk_below r0 k1; have k2 := bel_call k0 k1; clear k1; obtain ⟨a0, a1, a2, a3, a4, a5, a6⟩ := r1.cs; have f0 := r1.fz 0; have f1 := r1.fz 1; have f2 := r1.fz 2; have f3 := r1.fz 3; have f4 := r1.fz 4; have f5 := r1.fz 5; have f6 := r1.fz 6))
      have hF := set7b (a0 := .int .i64 b) (a1 := .int .i64 u) (a2 := .int .i64 c) (a3 := .int .i64 x) (a4 := .int .i64 n) (a5 := .string h) (a6 := .string t) r1
      have hB := set7l (a0 := .int .i64 b) (a1 := .int .i64 u) (a2 := .int .i64 c) (a3 := .int .i64 x) (a4 := .int .i64 n) (a5 := .string h) (a6 := .string t) k2 (Nat.le_refl _)
      obtain ⟨d0, d1, d2, d3, d4, d5, d6⟩ := BxR.cs hF
      refine bodyPost_ret (v := .agg #[.int .i64 b, .int .i64 u, .int .i64 c, .int .i64 x, .int .i64 n, .string h, .string t]) (by simp [results, Tryd.results26, go_sem, d0, d1, d2, d3, d4, d5, d6]) rfl ⟨rfl, hB⟩
    · by_cases hji : j < 0
      · obtain ⟨rfl, rfl, rfl, rfl, rfl, rfl, rfl⟩ := M0.out (by have := HQ.out; omega)
        clear M0 M1
        have r1 := r0
        have k2 := k0
        clear k0 r0
        obtain ⟨a0, a1, a2, a3, a4, a5, a6⟩ := r1.cs
        have f0 := r1.fz 0
        have f1 := r1.fz 1
        have f2 := r1.fz 2
        have f3 := r1.fz 3
        have f4 := r1.fz 4
        have f5 := r1.fz 5
        have f6 := r1.fz 6
        go_wp2_with fail
        have hF := set7b (a0 := .int .i64 0) (a1 := .int .i64 0) (a2 := .int .i64 0) (a3 := .int .i64 0) (a4 := .int .i64 0) (a5 := .string ⟨#[]⟩) (a6 := .string ⟨#[]⟩) r1
        have hB := set7l (a0 := .int .i64 0) (a1 := .int .i64 0) (a2 := .int .i64 0) (a3 := .int .i64 0) (a4 := .int .i64 0) (a5 := .string ⟨#[]⟩) (a6 := .string ⟨#[]⟩) k2 (Nat.le_refl _)
        obtain ⟨d0, d1, d2, d3, d4, d5, d6⟩ := BxR.cs hF
        refine bodyPost_ret (v := .agg #[.int .i64 0, .int .i64 0, .int .i64 0, .int .i64 0, .int .i64 0, .string ⟨#[]⟩, .string ⟨#[]⟩]) (by simp [results, Tryd.results26, go_sem, d0, d1, d2, d3, d4, d5, d6]) rfl ⟨rfl, hB⟩
      · have m7 : (P : Int) ≤ Q := by have := HQ.out; omega
        have m9 : (0 : Int) ≤ P := by omega
        have m10 : (0 : Int) ≤ s.size := by omega
        have m11 : (s.size : Int) ≤ s.size := by omega
        have m8 : (Q : Int) ≤ s.size := by have := HQ.out; omega
        obtain rfl : P = 0 := by have := HQ.out; omega
        obtain rfl : j = (Q : Int) := by have := HQ.out; omega
        clear M0
        go_wp2_with (first
          | (go_at_call 16; (with_reducible refine (M1.out _ ?_ _).mono ?_); (focus (first | (with_reducible rfl) | simp)); rintro e w1 ⟨rfl, k1⟩; have r1 : BxR w1 w.heap.size 0 0 0 0 0 ⟨#[]⟩ ⟨#[]⟩ := blk_below r0 k1; have k2 := bel_call k0 k1; clear k1; obtain ⟨a0, a1, a2, a3, a4, a5, a6⟩ := r1.cs; have f0 := r1.fz 0; have f1 := r1.fz 1; have f2 := r1.fz 2; have f3 := r1.fz 3; have f4 := r1.fz 4; have f5 := r1.fz 5; have f6 := r1.fz 6))
        have hF := set7b (a0 := .int .i64 b) (a1 := .int .i64 u) (a2 := .int .i64 c) (a3 := .int .i64 x) (a4 := .int .i64 n) (a5 := .string h) (a6 := .string t) r1
        have hB := set7l (a0 := .int .i64 b) (a1 := .int .i64 u) (a2 := .int .i64 c) (a3 := .int .i64 x) (a4 := .int .i64 n) (a5 := .string h) (a6 := .string t) k2 (Nat.le_refl _)
        obtain ⟨d0, d1, d2, d3, d4, d5, d6⟩ := BxR.cs hF
        refine bodyPost_ret (v := .agg #[.int .i64 b, .int .i64 u, .int .i64 c, .int .i64 x, .int .i64 n, .string h, .string t]) (by simp [results, Tryd.results26, go_sem, d0, d1, d2, d3, d4, d5, d6]) rfl ⟨rfl, hB⟩
  · by_cases hi2 : (s.size : Int) < i
    · by_cases hj : (s.size : Int) < j
      · have m7 : (P : Int) ≤ Q := by have := HQ.out; omega
        have m9 : (0 : Int) ≤ P := by omega
        have m10 : (0 : Int) ≤ s.size := by omega
        have m11 : (s.size : Int) ≤ s.size := by omega
        have m8 : (Q : Int) ≤ s.size := by have := HQ.out; omega
        obtain rfl : P = s.size := by have := HQ.out; omega
        obtain rfl : Q = s.size := by have := HQ.out; omega
        clear M0
        go_wp2_with (first
          | (go_at_call 16; (with_reducible refine (M1.out _ ?_ _).mono ?_); (focus (first | (with_reducible rfl) | simp)); rintro e w1 ⟨rfl, k1⟩; have r1 : BxR w1 w.heap.size 0 0 0 0 0 ⟨#[]⟩ ⟨#[]⟩ := blk_below r0 k1; have k2 := bel_call k0 k1; clear k1; obtain ⟨a0, a1, a2, a3, a4, a5, a6⟩ := r1.cs; have f0 := r1.fz 0; have f1 := r1.fz 1; have f2 := r1.fz 2; have f3 := r1.fz 3; have f4 := r1.fz 4; have f5 := r1.fz 5; have f6 := r1.fz 6))
        have hF := set7b (a0 := .int .i64 b) (a1 := .int .i64 u) (a2 := .int .i64 c) (a3 := .int .i64 x) (a4 := .int .i64 n) (a5 := .string h) (a6 := .string t) r1
        have hB := set7l (a0 := .int .i64 b) (a1 := .int .i64 u) (a2 := .int .i64 c) (a3 := .int .i64 x) (a4 := .int .i64 n) (a5 := .string h) (a6 := .string t) k2 (Nat.le_refl _)
        obtain ⟨d0, d1, d2, d3, d4, d5, d6⟩ := BxR.cs hF
        refine bodyPost_ret (v := .agg #[.int .i64 b, .int .i64 u, .int .i64 c, .int .i64 x, .int .i64 n, .string h, .string t]) (by simp [results, Tryd.results26, go_sem, d0, d1, d2, d3, d4, d5, d6]) rfl ⟨rfl, hB⟩
      · by_cases hji : j < (s.size : Int)
        · obtain ⟨rfl, rfl, rfl, rfl, rfl, rfl, rfl⟩ := M0.out (by have := HQ.out; omega)
          clear M0 M1
          have r1 := r0
          have k2 := k0
          clear k0 r0
          obtain ⟨a0, a1, a2, a3, a4, a5, a6⟩ := r1.cs
          have f0 := r1.fz 0
          have f1 := r1.fz 1
          have f2 := r1.fz 2
          have f3 := r1.fz 3
          have f4 := r1.fz 4
          have f5 := r1.fz 5
          have f6 := r1.fz 6
          go_wp2_with fail
          have hF := set7b (a0 := .int .i64 0) (a1 := .int .i64 0) (a2 := .int .i64 0) (a3 := .int .i64 0) (a4 := .int .i64 0) (a5 := .string ⟨#[]⟩) (a6 := .string ⟨#[]⟩) r1
          have hB := set7l (a0 := .int .i64 0) (a1 := .int .i64 0) (a2 := .int .i64 0) (a3 := .int .i64 0) (a4 := .int .i64 0) (a5 := .string ⟨#[]⟩) (a6 := .string ⟨#[]⟩) k2 (Nat.le_refl _)
          obtain ⟨d0, d1, d2, d3, d4, d5, d6⟩ := BxR.cs hF
          refine bodyPost_ret (v := .agg #[.int .i64 0, .int .i64 0, .int .i64 0, .int .i64 0, .int .i64 0, .string ⟨#[]⟩, .string ⟨#[]⟩]) (by simp [results, Tryd.results26, go_sem, d0, d1, d2, d3, d4, d5, d6]) rfl ⟨rfl, hB⟩
        · have m7 : (P : Int) ≤ Q := by have := HQ.out; omega
          have m9 : (0 : Int) ≤ P := by omega
          have m10 : (0 : Int) ≤ s.size := by omega
          have m11 : (s.size : Int) ≤ s.size := by omega
          have m8 : (Q : Int) ≤ s.size := by have := HQ.out; omega
          obtain rfl : P = s.size := by have := HQ.out; omega
          obtain rfl : j = (Q : Int) := by have := HQ.out; omega
          clear M0
          go_wp2_with (first
            | (go_at_call 16; (with_reducible refine (M1.out _ ?_ _).mono ?_); (focus (first | (with_reducible rfl) | simp)); rintro e w1 ⟨rfl, k1⟩; have r1 : BxR w1 w.heap.size 0 0 0 0 0 ⟨#[]⟩ ⟨#[]⟩ := blk_below r0 k1; have k2 := bel_call k0 k1; clear k1; obtain ⟨a0, a1, a2, a3, a4, a5, a6⟩ := r1.cs; have f0 := r1.fz 0; have f1 := r1.fz 1; have f2 := r1.fz 2; have f3 := r1.fz 3; have f4 := r1.fz 4; have f5 := r1.fz 5; have f6 := r1.fz 6))
          have hF := set7b (a0 := .int .i64 b) (a1 := .int .i64 u) (a2 := .int .i64 c) (a3 := .int .i64 x) (a4 := .int .i64 n) (a5 := .string h) (a6 := .string t) r1
          have hB := set7l (a0 := .int .i64 b) (a1 := .int .i64 u) (a2 := .int .i64 c) (a3 := .int .i64 x) (a4 := .int .i64 n) (a5 := .string h) (a6 := .string t) k2 (Nat.le_refl _)
          obtain ⟨d0, d1, d2, d3, d4, d5, d6⟩ := BxR.cs hF
          refine bodyPost_ret (v := .agg #[.int .i64 b, .int .i64 u, .int .i64 c, .int .i64 x, .int .i64 n, .string h, .string t]) (by simp [results, Tryd.results26, go_sem, d0, d1, d2, d3, d4, d5, d6]) rfl ⟨rfl, hB⟩
    · by_cases hj : (s.size : Int) < j
      · have m7 : (P : Int) ≤ Q := by have := HQ.out; omega
        have m9 : (0 : Int) ≤ P := by omega
        have m10 : (0 : Int) ≤ s.size := by omega
        have m11 : (s.size : Int) ≤ s.size := by omega
        have m8 : (Q : Int) ≤ s.size := by have := HQ.out; omega
        obtain rfl : i = (P : Int) := by have := HQ.out; omega
        obtain rfl : Q = s.size := by have := HQ.out; omega
        clear M0
        go_wp2_with (first
          | (go_at_call 16; (with_reducible refine (M1.out _ ?_ _).mono ?_); (focus (first | (with_reducible rfl) | simp)); rintro e w1 ⟨rfl, k1⟩; have r1 : BxR w1 w.heap.size 0 0 0 0 0 ⟨#[]⟩ ⟨#[]⟩ := blk_below r0 k1; have k2 := bel_call k0 k1; clear k1; obtain ⟨a0, a1, a2, a3, a4, a5, a6⟩ := r1.cs; have f0 := r1.fz 0; have f1 := r1.fz 1; have f2 := r1.fz 2; have f3 := r1.fz 3; have f4 := r1.fz 4; have f5 := r1.fz 5; have f6 := r1.fz 6))
        have hF := set7b (a0 := .int .i64 b) (a1 := .int .i64 u) (a2 := .int .i64 c) (a3 := .int .i64 x) (a4 := .int .i64 n) (a5 := .string h) (a6 := .string t) r1
        have hB := set7l (a0 := .int .i64 b) (a1 := .int .i64 u) (a2 := .int .i64 c) (a3 := .int .i64 x) (a4 := .int .i64 n) (a5 := .string h) (a6 := .string t) k2 (Nat.le_refl _)
        obtain ⟨d0, d1, d2, d3, d4, d5, d6⟩ := BxR.cs hF
        refine bodyPost_ret (v := .agg #[.int .i64 b, .int .i64 u, .int .i64 c, .int .i64 x, .int .i64 n, .string h, .string t]) (by simp [results, Tryd.results26, go_sem, d0, d1, d2, d3, d4, d5, d6]) rfl ⟨rfl, hB⟩
      · by_cases hji : j < i
        · obtain ⟨rfl, rfl, rfl, rfl, rfl, rfl, rfl⟩ := M0.out (by have := HQ.out; omega)
          clear M0 M1
          have r1 := r0
          have k2 := k0
          clear k0 r0
          obtain ⟨a0, a1, a2, a3, a4, a5, a6⟩ := r1.cs
          have f0 := r1.fz 0
          have f1 := r1.fz 1
          have f2 := r1.fz 2
          have f3 := r1.fz 3
          have f4 := r1.fz 4
          have f5 := r1.fz 5
          have f6 := r1.fz 6
          go_wp2_with fail
          have hF := set7b (a0 := .int .i64 0) (a1 := .int .i64 0) (a2 := .int .i64 0) (a3 := .int .i64 0) (a4 := .int .i64 0) (a5 := .string ⟨#[]⟩) (a6 := .string ⟨#[]⟩) r1
          have hB := set7l (a0 := .int .i64 0) (a1 := .int .i64 0) (a2 := .int .i64 0) (a3 := .int .i64 0) (a4 := .int .i64 0) (a5 := .string ⟨#[]⟩) (a6 := .string ⟨#[]⟩) k2 (Nat.le_refl _)
          obtain ⟨d0, d1, d2, d3, d4, d5, d6⟩ := BxR.cs hF
          refine bodyPost_ret (v := .agg #[.int .i64 0, .int .i64 0, .int .i64 0, .int .i64 0, .int .i64 0, .string ⟨#[]⟩, .string ⟨#[]⟩]) (by simp [results, Tryd.results26, go_sem, d0, d1, d2, d3, d4, d5, d6]) rfl ⟨rfl, hB⟩
        · have m7 : (P : Int) ≤ Q := by have := HQ.out; omega
          have m9 : (0 : Int) ≤ P := by omega
          have m10 : (0 : Int) ≤ s.size := by omega
          have m11 : (s.size : Int) ≤ s.size := by omega
          have m8 : (Q : Int) ≤ s.size := by have := HQ.out; omega
          obtain rfl : i = (P : Int) := by have := HQ.out; omega
          obtain rfl : j = (Q : Int) := by have := HQ.out; omega
          clear M0
          go_wp2_with (first
            | (go_at_call 16; (with_reducible refine (M1.out _ ?_ _).mono ?_); (focus (first | (with_reducible rfl) | simp)); rintro e w1 ⟨rfl, k1⟩; have r1 : BxR w1 w.heap.size 0 0 0 0 0 ⟨#[]⟩ ⟨#[]⟩ := blk_below r0 k1; have k2 := bel_call k0 k1; clear k1; obtain ⟨a0, a1, a2, a3, a4, a5, a6⟩ := r1.cs; have f0 := r1.fz 0; have f1 := r1.fz 1; have f2 := r1.fz 2; have f3 := r1.fz 3; have f4 := r1.fz 4; have f5 := r1.fz 5; have f6 := r1.fz 6))
          have hF := set7b (a0 := .int .i64 b) (a1 := .int .i64 u) (a2 := .int .i64 c) (a3 := .int .i64 x) (a4 := .int .i64 n) (a5 := .string h) (a6 := .string t) r1
          have hB := set7l (a0 := .int .i64 b) (a1 := .int .i64 u) (a2 := .int .i64 c) (a3 := .int .i64 x) (a4 := .int .i64 n) (a5 := .string h) (a6 := .string t) k2 (Nat.le_refl _)
          obtain ⟨d0, d1, d2, d3, d4, d5, d6⟩ := BxR.cs hF
          refine bodyPost_ret (v := .agg #[.int .i64 b, .int .i64 u, .int .i64 c, .int .i64 x, .int .i64 n, .string h, .string t]) (by simp [results, Tryd.results26, go_sem, d0, d1, d2, d3, d4, d5, d6]) rfl ⟨rfl, hB⟩
set_option maxRecDepth 100000 in
set_option maxHeartbeats 4000000 in
theorem ranges_calls (s : ByteArray) (i j : Int) (hs : s.size ≤ 1000000000) (w : World) (hT : Tb w) :
    Calls Tryd.prog 9 #[.string s, .int .i64 i, .int .i64 j] w fun e w' => e = .returned (.bool true) ∧ Below w.heap.size w w' := by
  have HT := Lib.hid hT
  clear hT
  have K := Lib.hid (fun W hW => counts_calls W hW)
  obtain ⟨r1, e1⟩ : ∃ r, mR (rgL s.data.toList i j) = r := ⟨_, rfl⟩
  obtain ⟨b1, u1, c1, x1, n1, h1, t1⟩ := r1
  obtain ⟨r2, e2⟩ : ∃ r, mR (rgL s.data.toList j i) = r := ⟨_, rfl⟩
  obtain ⟨b2, u2, c2, x2, n2, h2, t2⟩ := r2
  have A1 := Lib.hid (fun W hW => rangeA_calls s i j hs e1 W hW)
  have A2 := Lib.hid (fun W hW => rangeA_calls s j i hs e2 W hW)
  have B1 := Lib.hid (fun W => rrange_calls s i j hs e1 W)
  have B2 := Lib.hid (fun W => rrange_calls s j i hs e2 W)
  have q1 : eqB b1 b1 u1 u1 c1 c1 x1 x1 n1 n1 h1 h1 t1 t1 = true := eqS_self ⟨b1, u1, c1, x1, n1, h1, t1⟩
  have q2 : eqB b2 b2 u2 u2 c2 c2 x2 x2 n2 n2 h2 h2 t2 t2 = true := eqS_self ⟨b2, u2, c2, x2, n2, h2, t2⟩
  clear e1 e2 hs
  go_enter Tryd.func9, Tryd.ntmps9
  go_wp2_with (first
    | (go_at_call 15; (with_reducible refine (K.out _ HT.out).mono ?_); rintro e w1 ⟨rfl, k1⟩; clear K)
    | (go_at_call 25; (with_reducible refine (A1.out _ (HT.out.below k1)).mono ?_); rintro e w2 ⟨rfl, g2⟩; have k2 := bel_call k1 g2; clear g2 A1)
    | (go_at_call 26; (with_reducible refine (B1.out _).mono ?_); rintro e w3 ⟨rfl, g3⟩; have k3 := bel_call k2 g3; clear g3 B1)
    | (go_at_call 25; (with_reducible refine (A2.out _ (HT.out.below k3)).mono ?_); rintro e w4 ⟨rfl, g4⟩; have k4 := bel_call k3 g4; clear g4 A2)
    | (go_at_call 26; (with_reducible refine (B2.out _).mono ?_); rintro e w5 ⟨rfl, g5⟩; have k5 := bel_call k4 g5; clear g5 B2))
  go_ret
  exact ⟨rfl, k5⟩
end Go.Proofs.YtoodidokjchplaaDoor.Un
