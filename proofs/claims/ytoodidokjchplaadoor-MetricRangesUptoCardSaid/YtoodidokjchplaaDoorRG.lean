/- metric.Range, Whole: walked. -/
import Derived.Test.YtoodidokjchplaaDoorCT
namespace Go.Proofs.YtoodidokjchplaaDoor.Un
open Go Go.RowKit Go.Shelf
open Go.Proofs.YtoodidokjchplaaDoor.Wk (bcell bel_drew bel_drewN bel_alloc bel_set bel_call size_len blk_cell blk_below blk_lt mk_data)
set_option linter.unusedVariables false
set_option linter.unusedSimpArgs false
attribute [local go_sem high] eqA26
set_option maxRecDepth 100000 in
set_option maxHeartbeats 4000000 in
theorem range_calls (s : ByteArray) (i j : Nat) (hs : s.size ≤ 1000000000) (hij : i ≤ j) (hj : j ≤ s.size) {b u c x n : Int} {h t : ByteArray} (e : mR ((s.data.toList.drop i).take (j - i)) = ⟨b, u, c, x, n, h, t⟩) (w : World) (hT : Tb w) :
    Calls Tryd.prog 25 #[.string s, .int .i64 i, .int .i64 j] w fun e w' => e = .returned (.agg #[.int .i64 b, .int .i64 u, .int .i64 c, .int .i64 x, .int .i64 n, .string h, .string t]) ∧ Below w.heap.size w w' := by
  have HT := Lib.hid hT
  have hd : (s.extract i j).data.toList = (s.data.toList.drop i).take (j - i) := by rw [ByteArray.data_extract, Array.toList_extract]
  have M1 := Lib.hid (fun W hW => measR (s.extract i j) (by rw [ByteArray.size_extract]; omega) ((congrArg mR hd).trans e) W hW)
  clear hT e hd
  have m1 : max (i : Int) 0 = i := by omega
  have m2 : min (i : Int) s.size = i := by omega
  have m3 : max (j : Int) 0 = j := by omega
  have m4 : min (j : Int) s.size = j := by omega
  have m5 : ¬ ((j : Int) < i) := by omega
  have m6 : (0 : Int) ≤ i := by omega
  have m7 : (i : Int) ≤ j := by omega
  have m8 : (j : Int) ≤ s.size := by omega
  go_enter Tryd.func25, Tryd.ntmps25
  have k0 := bel_alloc (Below.refl _ w) (.cells #[.int .i64 0, .int .i64 0, .int .i64 0, .int .i64 0, .int .i64 0, .string ⟨#[]⟩, .string ⟨#[]⟩] 26)
  go_wp2_with (first
    | (go_at_call 19; (with_reducible refine (M1.out _ (HT.out.below k0)).mono ?_); rintro e w1 ⟨rfl, k1⟩; have r1 : BxR w1 w.heap.size 0 0 0 0 0 ⟨#[]⟩ ⟨#[]⟩ := blk_below (heap_alloc_new w (.cells #[.int .i64 0, .int .i64 0, .int .i64 0, .int .i64 0, .int .i64 0, .string ⟨#[]⟩, .string ⟨#[]⟩] 26)) k1; have k2 := bel_call k0 k1; clear k1; obtain ⟨q0, q1, q2, q3, q4, q5, q6⟩ := r1.cs; have f0 := r1.fz 0; have f1 := r1.fz 1; have f2 := r1.fz 2; have f3 := r1.fz 3; have f4 := r1.fz 4; have f5 := r1.fz 5; have f6 := r1.fz 6))
  have hF := set7b (a0 := .int .i64 b) (a1 := .int .i64 u) (a2 := .int .i64 c) (a3 := .int .i64 x) (a4 := .int .i64 n) (a5 := .string h) (a6 := .string t) r1
  have hB := set7l (a0 := .int .i64 b) (a1 := .int .i64 u) (a2 := .int .i64 c) (a3 := .int .i64 x) (a4 := .int .i64 n) (a5 := .string h) (a6 := .string t) k2 (Nat.le_refl _)
  obtain ⟨d0, d1, d2, d3, d4, d5, d6⟩ := BxR.cs hF
  refine bodyPost_ret (v := .agg #[.int .i64 b, .int .i64 u, .int .i64 c, .int .i64 x, .int .i64 n, .string h, .string t]) (by simp [results, Tryd.results25, go_sem, d0, d1, d2, d3, d4, d5, d6]) rfl ⟨rfl, hB⟩
end Go.Proofs.YtoodidokjchplaaDoor.Un
