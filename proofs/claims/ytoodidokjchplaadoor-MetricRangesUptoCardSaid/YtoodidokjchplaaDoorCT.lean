/- Rows of one to three summaries; Measure by letters; the document's examples: counts(). -/
import Derived.Test.YtoodidokjchplaaDoorJM
import Derived.Test.YtoodidokjchplaaDoorCN
namespace Go.Proofs.YtoodidokjchplaaDoor.Un
open Go Go.RowKit Go.Shelf
open Go.Proofs.YtoodidokjchplaaDoor.Wk (bcell bel_drew bel_drewN bel_alloc bel_set bel_call size_len blk_cell blk_below blk_lt mk_data)
set_option linter.unusedVariables false
set_option linter.unusedSimpArgs false
attribute [local go_sem high] eqA26
theorem rds1 {W : World} {g : Nat} {t : TypeId} (m0 : Sr) (h : W.heap[g]? = some (.cells #[.int .i64 m0.b, .int .i64 m0.u, .int .i64 m0.c, .int .i64 m0.x, .int .i64 m0.n, .string m0.h, .string m0.t] t (0, 0))) : RdS W (some ⟨g, 0, none⟩) [m0] := by
  intro i hi
  match i, hi with
  | 0, _ => exact ⟨⟨g, 0, none⟩, rfl, blk_cell h 0, blk_cell h 1, blk_cell h 2, blk_cell h 3, blk_cell h 4, blk_cell h 5, blk_cell h 6⟩
theorem rds2 {W : World} {g : Nat} {t : TypeId} (m0 m1 : Sr) (h : W.heap[g]? = some (.cells #[.int .i64 m0.b, .int .i64 m0.u, .int .i64 m0.c, .int .i64 m0.x, .int .i64 m0.n, .string m0.h, .string m0.t, .int .i64 m1.b, .int .i64 m1.u, .int .i64 m1.c, .int .i64 m1.x, .int .i64 m1.n, .string m1.h, .string m1.t] t (0, 0))) : RdS W (some ⟨g, 0, none⟩) [m0, m1] := by
  intro i hi
  match i, hi with
  | 0, _ => exact ⟨⟨g, 0, none⟩, rfl, blk_cell h 0, blk_cell h 1, blk_cell h 2, blk_cell h 3, blk_cell h 4, blk_cell h 5, blk_cell h 6⟩
  | 1, _ => exact ⟨⟨g, 0, none⟩, rfl, blk_cell h 7, blk_cell h 8, blk_cell h 9, blk_cell h 10, blk_cell h 11, blk_cell h 12, blk_cell h 13⟩
theorem rds3 {W : World} {g : Nat} {t : TypeId} (m0 m1 m2 : Sr) (h : W.heap[g]? = some (.cells #[.int .i64 m0.b, .int .i64 m0.u, .int .i64 m0.c, .int .i64 m0.x, .int .i64 m0.n, .string m0.h, .string m0.t, .int .i64 m1.b, .int .i64 m1.u, .int .i64 m1.c, .int .i64 m1.x, .int .i64 m1.n, .string m1.h, .string m1.t, .int .i64 m2.b, .int .i64 m2.u, .int .i64 m2.c, .int .i64 m2.x, .int .i64 m2.n, .string m2.h, .string m2.t] t (0, 0))) : RdS W (some ⟨g, 0, none⟩) [m0, m1, m2] := by
  intro i hi
  match i, hi with
  | 0, _ => exact ⟨⟨g, 0, none⟩, rfl, blk_cell h 0, blk_cell h 1, blk_cell h 2, blk_cell h 3, blk_cell h 4, blk_cell h 5, blk_cell h 6⟩
  | 1, _ => exact ⟨⟨g, 0, none⟩, rfl, blk_cell h 7, blk_cell h 8, blk_cell h 9, blk_cell h 10, blk_cell h 11, blk_cell h 12, blk_cell h 13⟩
  | 2, _ => exact ⟨⟨g, 0, none⟩, rfl, blk_cell h 14, blk_cell h 15, blk_cell h 16, blk_cell h 17, blk_cell h 18, blk_cell h 19, blk_cell h 20⟩
theorem measR (s : ByteArray) (hs : s.size ≤ 1000000000) {b u c x n : Int} {h t : ByteArray} (e : mR s.data.toList = ⟨b, u, c, x, n, h, t⟩) (w : World) (hT : Tb w) :
    Calls Tryd.prog 19 #[.string s] w fun e w' => e = .returned (.agg #[.int .i64 b, .int .i64 u, .int .i64 c, .int .i64 x, .int .i64 n, .string h, .string t]) ∧ Below w.heap.size w w' := by
  have := measure_calls s hs w hT
  rw [smV_toR] at this
  change Calls _ _ _ _ (fun e w' => e = .returned (mR s.data.toList).v ∧ Below w.heap.size w w') at this
  rw [e] at this
  exact this
theorem joinL {A : Option Addr} {n c : Nat} {W : World} (T : List (List UInt8)) (l : List UInt8) (hl : T.flatten = l) (hb : l.length ≤ 1000000000) (hn : n = T.length) (hR : RdS W A (T.map mR)) (hT : Tb W) {b u c' x k : Int} {h t : ByteArray} (e : mR l = ⟨b, u, c', x, k, h, t⟩) (hc : T.length ≤ 1000000000) :
    Calls Tryd.prog 17 #[.slice A n c] W fun e w' => e = .returned (.agg #[.int .i64 b, .int .i64 u, .int .i64 c', .int .i64 x, .int .i64 k, .string h, .string t]) ∧ Below W.heap.size W w' := by
  have := join_calls A (T.map mR) n c (by rw [List.length_map]; exact hn) (by omega) (fun p hp => by
    obtain ⟨q, _, rfl⟩ := List.mem_map.1 hp
    exact mR_sizes q) W hT hR
  rw [join_R0 T (by rw [hl]; exact hb), hl, e] at this
  exact this
set_option maxRecDepth 100000 in
set_option maxHeartbeats 4000000 in
theorem counts_calls (w : World) (hT : Tb w) :
    Calls Tryd.prog 15 #[] w fun e w' => e = .returned (.bool true) ∧ Below w.heap.size w w' := by
  have HT := Lib.hid hT
  clear hT
  have e1 : mR [97, 13, 10, 228, 184, 128] = ⟨6, 4, 3, 3, 1, ⟨#[97, 13, 10, 228, 184, 128]⟩, ⟨#[97, 13, 10, 228, 184, 128]⟩⟩ := by unfold mR; rw [cnt_m]; rfl
  have M1 := Lib.hid (fun W hW => measR ⟨#[97, 13, 10, 228, 184, 128]⟩ (by decide) e1 W hW)
  obtain ⟨re2, e2⟩ : ∃ r, mR [226] = r := ⟨_, rfl⟩
  obtain ⟨b2, u2, c2, x2, n2, h2, t2⟩ := re2
  obtain ⟨re3, e3⟩ : ∃ r, mR [130, 172] = r := ⟨_, rfl⟩
  obtain ⟨b3, u3, c3, x3, n3, h3, t3⟩ := re3
  have M2 := Lib.hid (fun W hW => measR ⟨#[226]⟩ (by decide) e2 W hW)
  have M3 := Lib.hid (fun W hW => measR ⟨#[130, 172]⟩ (by decide) e3 W hW)
  obtain ⟨re4, e4⟩ : ∃ r, mR [226, 130, 172] = r := ⟨_, rfl⟩
  obtain ⟨b4, u4, c4, x4, n4, h4, t4⟩ := re4
  have v4 := cnt_v
  have v1 : (mR [226, 130, 172]).u = 1 := v4.1
  have v2 : (mR [226, 130, 172]).c = 1 := v4.2.1
  have v3 : (mR [226, 130, 172]).b = 3 := v4.2.2
  rw [e4] at v1 v2 v3
  simp only at v1 v2 v3
  subst v1 v2 v3
  have J := Lib.hid (fun W A c hR hT => joinL (A := A) (n := 2) (c := c) (W := W) [[226], [130, 172]] [226, 130, 172] rfl (by decide) rfl hR hT e4 (by decide))
  have E2 := Lib.hid e2
  have E3 := Lib.hid e3
  have ee : eqB 6 6 4 4 3 3 3 3 1 1 ⟨#[97, 13, 10, 228, 184, 128]⟩ ⟨#[97, 13, 10, 228, 184, 128]⟩ ⟨#[97, 13, 10, 228, 184, 128]⟩ ⟨#[97, 13, 10, 228, 184, 128]⟩ = true := (eqS_iff ⟨6, 4, 3, 3, 1, ⟨#[97, 13, 10, 228, 184, 128]⟩, ⟨#[97, 13, 10, 228, 184, 128]⟩⟩ ⟨6, 4, 3, 3, 1, ⟨#[97, 13, 10, 228, 184, 128]⟩, ⟨#[97, 13, 10, 228, 184, 128]⟩⟩).2 rfl
  clear e1 e2 e3 e4 v4
  go_enter Tryd.func15, Tryd.ntmps15
  have k0 := Below.refl w.heap.size w
  go_wp2_with (first
    | (go_at_call 19; (with_reducible refine (M1.out _ (HT.out.below k0)).mono ?_); rintro e w1 ⟨rfl, b1⟩; have k1 := bel_call k0 b1; clear b1; have k1 := bel_alloc k1 (.cells #[.int .i64 6, .int .i64 4, .int .i64 3, .int .i64 3, .int .i64 1, .string ⟨#[97, 13, 10, 228, 184, 128]⟩, .string ⟨#[97, 13, 10, 228, 184, 128]⟩] 26))
    | (go_at_call 19; (with_reducible refine (M2.out _ (HT.out.below k1)).mono ?_); rintro e w2 ⟨rfl, b2⟩; have k2 := bel_call k1 b2; clear b2)
    | (go_at_call 19; (with_reducible refine (M3.out _ (HT.out.below k2)).mono ?_); rintro e w3 ⟨rfl, b3⟩; have k3 := bel_call k2 b3; clear b3)
    | (go_at_call 17; (with_reducible refine (J.out _ _ _ (by rw [List.map_cons, List.map_cons, List.map_nil, E2.out, E3.out]; exact rds2 _ _ (heap_alloc_new w3 _)) (HT.out.below (bel_alloc k3 _))).mono ?_); rintro e w4 ⟨rfl, b4⟩; have k4 := bel_call (bel_alloc k3 _) b4; clear b4))
  go_ret
  exact ⟨rfl, bel_alloc k4 _⟩
end Go.Proofs.YtoodidokjchplaaDoor.Un
