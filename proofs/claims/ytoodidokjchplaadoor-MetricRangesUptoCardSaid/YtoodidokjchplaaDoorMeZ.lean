/- cluster.Next, made: walked. -/
import Derived.Test.YtoodidokjchplaaDoorMeY
import Derived.Deep.RegionHeld3
namespace Go.Proofs.YtoodidokjchplaaDoor.Un
open Go Go.RowKit Go.Shelf
open Go.Proofs.YtoodidokjchplaaDoor.Wk (bcell bel_drew bel_drewN bel_alloc bel_set bel_call size_len mk_data beq_true_i bne_true_i bne_false_i beq_false_i drop_cons var_below blk_cell blk_below blk_lt blk_alloc)
set_option linter.unusedVariables false
set_option linter.unusedSimpArgs false
set_option maxRecDepth 100000 in
theorem bdry_end (s : ByteArray) (h0 : 0 < s.size) (hs : s.size ≤ 1000000000) (w : World) :
    Calls Tryd.prog 82 #[.string s, .int .i64 s.size] w fun e w' => e = .returned (.bool true) ∧ Below w.heap.size w w' := by
  have q3 : ¬ s.size = 0 := by omega
  have q0 : decide ((s.size : Int) ≤ 0) = false := by rw [decide_eq_false_iff_not]; omega
  have q1 : decide ((s.size : Int) ≤ s.size) = true := by rw [decide_eq_true_iff]; omega
  have q2 : ((s.size : Int) == 0) = false := beq_false_i (by omega)
  go_enter Tryd.func82, Tryd.ntmps82
  go_wp2
  go_ret
  exact ⟨rfl, Below.refl _ _⟩
set_option maxRecDepth 100000 in
set_option maxHeartbeats 4000000 in
theorem next_cl (s : ByteArray) (o T : Nat) (ho : o < s.size) (hs : s.size ≤ 1000000000) (h : Stt s.data.toList o) (hT0 : clTo s.data.toList o = T) (w : World) (hT : Tb w) :
    Calls Tryd.prog 69 #[.string s, .int .i64 o] w fun e w' => e = .returned (.int .i64 T) ∧ Below w.heap.size w w' := by
  have HT := Lib.hid hT
  have q0 : decide ((o : Int) < 0) = false := by rw [decide_eq_false_iff_not]; omega
  have hst : Hid (Stt s.data.toList o ∧ clTo s.data.toList o = T) := (⟨h, hT0⟩ : Stt s.data.toList o ∧ clTo s.data.toList o = T)
  clear hT h hT0
  go_enter Tryd.func69, Tryd.ntmps69
  go_wp2
  go_loopw [1] (fun v1 wr => ∃ q : Nat, v1 = .int .i64 q ∧ q < s.size ∧ Hid (Stt s.data.toList q ∧ clTo s.data.toList q = T) ∧ Below w.heap.size w wr) (fun v1 _ => s.size - (intOf v1).toNat)
  case atStart => exact ⟨o, rfl, ho, hst.out, Below.refl _ _⟩
  case round =>
    clear hst
    obtain ⟨q, rfl, hq, hst, hB⟩ := hrel
    obtain ⟨k, hk⟩ : ∃ k, szAt s.data.toList q = k := ⟨_, rfl⟩
    obtain ⟨c, hc⟩ : ∃ c, chAt s.data.toList q = c := ⟨_, rfl⟩
    obtain ⟨n, hn⟩ : ∃ n, q + k = n := ⟨_, rfl⟩
    have hk1 := sz_pos s.data.toList q
    have hle := sz_le (l := s.data.toList) (j := q) (by rw [size_len]; exact hq)
    rw [size_len] at hle
    have hsn := stt_next hst.out.1 (by rw [size_len]; exact hq)
    rw [hk] at hk1 hle hsn
    rw [hn] at hle hsn
    have NX := Lib.hid (fun W hW => next_stt s q n hq hs hst.out.1 (by rw [hk]; exact hn) W hW)
    by_cases hlt : n < s.size
    · obtain ⟨d, hd⟩ : ∃ d, chAt s.data.toList n = d := ⟨_, rfl⟩
      obtain ⟨g, hg⟩ : ∃ g, glue c d = g := ⟨_, rfl⟩
      have BD := Lib.hid (fun W hW => bdry_in s q n k _ c d hlt hs hsn hst.out.1 hc hk hn hd rfl g hg W hW)
      have hcl := hst.out.2
      cases g with
      | false =>
        rw [clTo_stop (by rw [size_len]; exact hq) (.inr (by rw [hk, hn, hc, hd]; exact hg)), hk, hn] at hcl
        have HC := Lib.hid hcl
        clear hst hg hd hc hk hcl hsn
        go_wp2_with (first
          | (go_at_call 81; (with_reducible refine (NX.out _ (HT.out.below hB)).mono ?_); rintro e w1 ⟨rfl, b1⟩)
          | (go_at_call 82; (with_reducible refine (BD.out _ (HT.out.below (bel_call hB b1))).mono ?_); rintro e w2 ⟨rfl, b2⟩))
        go_ret
        exact ⟨by rw [← HC.out]; rfl, bel_call (bel_call hB b1) b2⟩
      | true =>
        rw [clTo_step (by rw [size_len]; exact hq) (by rw [size_len, hk, hn]; exact hlt) (by rw [hk, hn, hc, hd]; exact hg), hk, hn] at hcl
        have HC := Lib.hid hcl
        have HS := Lib.hid hsn
        clear hst hg hd hc hk hcl hsn
        go_wp2_with (first
          | (go_at_call 81; (with_reducible refine (NX.out _ (HT.out.below hB)).mono ?_); rintro e w1 ⟨rfl, b1⟩)
          | (go_at_call 82; (with_reducible refine (BD.out _ (HT.out.below (bel_call hB b1))).mono ?_); rintro e w2 ⟨rfl, b2⟩))
        go_roundw
        case rel => exact ⟨n, rfl, hlt, ⟨HS.out, HC.out⟩, bel_call (bel_call hB b1) b2⟩
        case measure => simp [intOf]; omega
    · obtain rfl : n = s.size := by omega
      have hcl := hst.out.2
      rw [clTo_stop (by rw [size_len]; exact hq) (.inl (by rw [hk, size_len]; omega)), hk, hn] at hcl
      have BD := Lib.hid (fun W => bdry_end s (by omega) hs W)
      have HC := Lib.hid hcl
      clear hst hc hk hcl hsn
      go_wp2_with (first
        | (go_at_call 81; (with_reducible refine (NX.out _ (HT.out.below hB)).mono ?_); rintro e w1 ⟨rfl, b1⟩)
        | (go_at_call 82; (with_reducible refine (BD.out _).mono ?_); rintro e w2 ⟨rfl, b2⟩))
      go_ret
      exact ⟨by rw [← HC.out]; rfl, bel_call (bel_call hB b1) b2⟩
theorem hp_nl (t : ByteArray) : Lib.hasPrefix t.data.toList [10] = decide (t.data.toList.head? = some 10) := by
  cases h : t.data.toList with
  | nil => rfl
  | cons a r =>
    by_cases h2 : a = 10
    · subst h2
      cases r <;> rfl
    · have h3 : ¬ (some a : Option UInt8) = some 10 := fun h => h2 (Option.some.inj h)
      show ((10 : UInt8) == a && List.isPrefixOf [] r) = decide (some a = some 10)
      rw [decide_eq_false h3, show ((10 : UInt8) == a) = false by rw [beq_eq_false_iff_ne]; exact fun h => h2 h.symm]
      rfl
theorem cell_up {W w3 : World} {U : Nat} {v : Value} (hb : Below W.heap.size W w3) (hx : W.cell? ⟨U, 0, none⟩ = some v) : w3.cell? ⟨U, 0, none⟩ = some v := (hb.cell (World.block_lt_of_cell? _ _ hx)).trans hx
theorem cell_al {W : World} {U : Nat} {v : Value} (hx : W.cell? ⟨U, 0, none⟩ = some v) (o : Obj) : (W.alloc o).cell? ⟨U, 0, none⟩ = some v := cell_up ((Below.refl _ W).alloc (Nat.le_refl _) o) hx
theorem set4 {W : World} {U G : Nat} {v a b c d : Value} (h : ¬ U = G) (hx : W.cell? ⟨U, 0, none⟩ = some v) : ((((W.setCell ⟨G, 0, none⟩ a).setCell ⟨G, 1, none⟩ b).setCell ⟨G, 2, none⟩ c).setCell ⟨G, 3, none⟩ d).cell? ⟨U, 0, none⟩ = some v := by
  have e : ((((W.setCell ⟨G, 0, none⟩ a).setCell ⟨G, 1, none⟩ b).setCell ⟨G, 2, none⟩ c).setCell ⟨G, 3, none⟩ d).heap[U]? = W.heap[U]? := by
    rw [Below.heap_setCell _ ⟨G, 3, none⟩ d U h, Below.heap_setCell _ ⟨G, 2, none⟩ c U h, Below.heap_setCell _ ⟨G, 1, none⟩ b U h, Below.heap_setCell _ ⟨G, 0, none⟩ a U h]
  simp only [World.cell?, e] at hx ⊢
  exact hx
theorem set4b {W : World} {G : Nat} {t : TypeId} {z0 z1 z2 z3 a b c d : Value} (h : W.heap[G]? = some (.cells #[z0, z1, z2, z3] t (0, 0))) :
    ((((W.setCell ⟨G, 0, none⟩ a).setCell ⟨G, 1, none⟩ b).setCell ⟨G, 2, none⟩ c).setCell ⟨G, 3, none⟩ d).heap[G]? = some (.cells #[a, b, c, d] t (0, 0)) :=
  Wk.blk_set (Wk.blk_set (Wk.blk_set (Wk.blk_set h 0 a) 1 b) 2 c) 3 d
theorem set4f {W : World} {R G : Nat} {ob : Obj} {a b c d : Value} (h : W.heap[R]? = some ob) (hne : R ≠ G) : ((((W.setCell ⟨G, 0, none⟩ a).setCell ⟨G, 1, none⟩ b).setCell ⟨G, 2, none⟩ c).setCell ⟨G, 3, none⟩ d).heap[R]? = some ob :=
  Wk.blk_far (Wk.blk_far (Wk.blk_far (Wk.blk_far h hne _) hne _) hne _) hne _
theorem set4l {w W : World} {G : Nat} {a b c d : Value} (h : Below w.heap.size w W) (hG : w.heap.size ≤ G) : Below w.heap.size w ((((W.setCell ⟨G, 0, none⟩ a).setCell ⟨G, 1, none⟩ b).setCell ⟨G, 2, none⟩ c).setCell ⟨G, 3, none⟩ d) :=
  bel_set (bel_set (bel_set (bel_set h hG _) hG _) hG _) hG _
theorem up_lt {U : Nat} {w : World} (h : U < w.heap.size) (o : Obj) : U < (w.alloc o).heap.size := by rw [Wk.size_alloc]; omega
set_option maxRecDepth 100000 in
set_option maxHeartbeats 4000000 in
theorem made_calls (s : ByteArray) (o T : Nat) (ho : o < s.size) (hs : s.size ≤ 1000000000) (h : Stt s.data.toList o) (w : World) (hT : Tb w) :
    Calls Tryd.prog 70 #[.string s, .int .i64 o, .int .i64 T] w fun e w' => e = .returned (.agg #[.int .i64 o, .int .i64 T, .int .i64 (if crlf s.data.toList o = true then 1 else clsOf (chAt s.data.toList o)), .int .i64 (if crlf s.data.toList o = true then 0 else celOf (chAt s.data.toList o))]) ∧ Below w.heap.size w w' := by
  obtain ⟨c, hc⟩ : ∃ c, chAt s.data.toList o = c := ⟨_, rfl⟩
  obtain ⟨k, hk⟩ : ∃ k, szAt s.data.toList o = k := ⟨_, rfl⟩
  obtain ⟨t, ht⟩ : ∃ t, s.extract (o + 1) s.size = t := ⟨_, rfl⟩
  have htl : t.data.toList = s.data.toList.drop (o + 1) := by rw [← ht]; exact Lib.extract_to_end s (o + 1)
  have A1 := Lib.hid (fun W hW => at_stt s o k c ho hs h hc hk W hW)
  have hcr : crlf s.data.toList o = (decide (c = 13) && Lib.hasPrefix t.data.toList [10]) := by rw [hp_nl, htl]; unfold crlf; rw [hc]
  obtain ⟨p, hp⟩ : ∃ p, Lib.hasPrefix t.data.toList [10] = p := ⟨_, rfl⟩
  have HP := Lib.hid (fun W => Tryd.strings_HasPrefix t ⟨#[10]⟩ W)
  rw [show (ByteArray.mk #[10]).data.toList = [10] from rfl, hp] at HP
  rw [hcr, hc, hp]
  obtain ⟨m, hm⟩ : ∃ m, clsOf c = m := ⟨_, rfl⟩
  obtain ⟨x, hx⟩ : ∃ x, celOf c = x := ⟨_, rfl⟩
  have C1 := Lib.hid (fun W => class_calls c W)
  have C2 := Lib.hid (fun W => cells_calls c W)
  rw [hm] at C1 ⊢
  rw [hx] at C2 ⊢
  have HT := Lib.hid hT
  have EX := Lib.hid ht
  clear hT h hc hk ht htl hcr hp hm hx
  have o1 : (0 : Int) ≤ (o : Int) + 1 := by omega
  have o2 : (o : Int) + 1 ≤ s.size := by omega
  have o3 : ((o : Int) + 1).toNat = o + 1 := by omega
  obtain ⟨r, hr⟩ : ∃ r, (decide (c = 13) && p) = r := ⟨_, rfl⟩
  rw [hr]
  have HR := Lib.hid hr
  clear hr
  go_enter Tryd.func70, Tryd.ntmps70
  go_upto_region 2 with (go_at_call 83; (with_reducible refine (A1.out _ (HT.out.below (bel_alloc (Below.refl _ _) _))).mono ?_); rintro e w1 ⟨rfl, b1⟩)
  have B0 : Below w.heap.size w (w1.alloc (.cells #[.int .i32 c, .int .i64 (k : Nat)] 88)) := bel_alloc (bel_call (bel_alloc (Below.refl _ w) _) b1) _
  have x0 := blk_cell (heap_alloc_new w1 (.cells #[.int .i32 c, .int .i64 (k : Nat)] 88)) 0
  simp only [List.getElem?_toArray, List.getElem?_cons_zero] at x0
  have hU0 : w.heap.size < w1.heap.size := lt_alloc b1
  have xl : w1.heap.size < (w1.alloc (.cells #[.int .i32 c, .int .i64 (k : Nat)] 88)).heap.size := World.block_lt_of_cell? _ _ x0
  have r0 := blk_alloc (blk_below (heap_alloc_new w (.cells #[.int .i64 0, .int .i64 0, .int .i64 0, .int .i64 0] 62)) b1) (.cells #[.int .i32 c, .int .i64 (k : Nat)] 88)
  obtain ⟨W1, hW1⟩ : ∃ W1, w1.alloc (.cells #[.int .i32 c, .int .i64 (k : Nat)] 88) = W1 := ⟨_, rfl⟩
  obtain ⟨U, hU⟩ : ∃ U, w1.heap.size = U := ⟨_, rfl⟩
  rw [hW1] at B0 x0 xl r0 ⊢
  rw [hU] at x0 hU0 xl ⊢
  have n1 : ¬ U = W1.heap.size := Nat.ne_of_lt xl
  clear b1 hW1 hU
  go_cut [9] (fun v9 W => ∃ G, v9 = .pointer (some ⟨G, 0, none⟩) ∧ Hid (W.heap[G]? = some (.cells #[.int .i64 o, .int .i64 T, .int .i64 m, .int .i64 x] 62 (0, 0))) ∧ Hid (W.cell? ⟨U, 0, none⟩ = some (.int .i32 c)) ∧ Hid (Below w.heap.size w W) ∧ U < G ∧ Hid (W.heap[w.heap.size]? = some (.cells #[.int .i64 0, .int .i64 0, .int .i64 0, .int .i64 0] 62 (0, 0))))
  case first =>
    go_region_held3 (fun w' => w'.cell? ⟨U, 0, none⟩ = some (.int .i32 c)) (with_reducible first | exact x3 | exact x2 | exact x0 | exact cell_al x0 _ | exact cell_al x2 _ | exact set4 n2 x3 | exact set4 n1 x3 | exact cell_al x3 _ | go_keep)
      (first
        | (go_at_call 84; (with_reducible refine (C1.out W1.drew).mono ?_); rintro e w2 ⟨rfl, b2⟩; have x2 : w2.cell? ⟨U, 0, none⟩ = some (.int .i32 c) := cell_up b2 (show W1.drew.cell? ⟨U, 0, none⟩ = _ from x0); have l2 : U < w2.heap.size := Nat.lt_of_lt_of_le xl b2.size; have n2 : ¬ U = w2.heap.size := Nat.ne_of_lt l2)
        | (go_at_call 84; (with_reducible refine (C1.out ((W1.alloc (.cells #[.int .i64 0, .int .i64 0, .int .i64 0, .int .i64 0] 62)).drew)).mono ?_); rintro e w5 ⟨rfl, b2⟩; have x2 : w5.cell? ⟨U, 0, none⟩ = some (.int .i32 c) := cell_up b2 (show (W1.alloc (.cells #[.int .i64 0, .int .i64 0, .int .i64 0, .int .i64 0] 62)).drew.cell? ⟨U, 0, none⟩ = some (.int .i32 c) from cell_al x0 _); have BL2 := blk_below (Wk.blk_drew (heap_alloc_new W1 (.cells #[.int .i64 0, .int .i64 0, .int .i64 0, .int .i64 0] 62))) b2; have l2 : U < w5.heap.size := Nat.lt_of_lt_of_le (up_lt xl (.cells #[.int .i64 0, .int .i64 0, .int .i64 0, .int .i64 0] 62)) b2.size)
        | (go_at_call 85; (with_reducible refine (C2.out w5).mono ?_); rintro e w3 ⟨rfl, b3⟩; have x3 : w3.cell? ⟨U, 0, none⟩ = some (.int .i32 c) := cell_up b3 x2; have l3 := Nat.lt_of_lt_of_le l2 b3.size; have BL3 := blk_below BL2 b3; have y0 := blk_cell BL3 0; have y1 := blk_cell BL3 1; have y2 := blk_cell BL3 2; have y3 := blk_cell BL3 3; simp only [List.getElem?_toArray, List.getElem?_cons_zero, List.getElem?_cons_succ] at y0 y1 y2 y3; have f0 := Wk.blk_frozen BL3 0; have f1 := Wk.blk_frozen BL3 1; have f2 := Wk.blk_frozen BL3 2; have f3 := Wk.blk_frozen BL3 3)
        | (go_at_call 85; (with_reducible refine (C2.out w2).mono ?_); rintro e w3 ⟨rfl, b3⟩; have x3 : w3.cell? ⟨U, 0, none⟩ = some (.int .i32 c) := cell_up b3 x2; have l3 := Nat.lt_of_lt_of_le l2 b3.size; have n3 : ¬ U = w3.heap.size := Nat.ne_of_lt l3)
        | (go_at_call 85; (with_reducible refine (C2.out (w2.alloc (.cells #[.int .i64 0, .int .i64 0, .int .i64 0, .int .i64 0] 62))).mono ?_); rintro e w3 ⟨rfl, b3⟩; have x3 : w3.cell? ⟨U, 0, none⟩ = some (.int .i32 c) := cell_up b3 (cell_al x2 _); have l3 := Nat.lt_trans l2 (lt_alloc b3); have BL3 := blk_below (heap_alloc_new w2 (.cells #[.int .i64 0, .int .i64 0, .int .i64 0, .int .i64 0] 62)) b3; have y0 := blk_cell BL3 0; have y1 := blk_cell BL3 1; have y2 := blk_cell BL3 2; have y3 := blk_cell BL3 3; simp only [List.getElem?_toArray, List.getElem?_cons_zero, List.getElem?_cons_succ] at y0 y1 y2 y3; have f0 := Wk.blk_frozen BL3 0; have f1 := Wk.blk_frozen BL3 1; have f2 := Wk.blk_frozen BL3 2; have f3 := Wk.blk_frozen BL3 3))
    all_goals (go_wp2_with fail; go_meet)
    all_goals first
      | exact ⟨_, rfl, set4b BL3, set4 n2 x3, set4l (bel_call (bel_alloc (bel_call (bel_drew B0) b2) _) b3) (by omega), l2, set4f (blk_below (blk_alloc (blk_below (Wk.blk_drew r0) b2) _) b3) (by omega)⟩
      | exact ⟨_, rfl, set4b BL3, set4 n1 x3, set4l (bel_call (bel_call (bel_drew (bel_alloc B0 _)) b2) b3) (by omega), xl, set4f (blk_below (blk_below (Wk.blk_drew (blk_alloc r0 _)) b2) b3) (by omega)⟩
      | exact ⟨_, rfl, heap_alloc_new w3 _, cell_al x3 _, bel_alloc (bel_call (bel_call (bel_drew B0) b2) b3) _, l3, blk_alloc (blk_below (blk_below (Wk.blk_drew r0) b2) b3) _⟩
  case rest =>
    obtain ⟨G, rfl, hG, hu, hB, hlt, hR⟩ := hcut
    have y0 := blk_cell hG.out 0; have y1 := blk_cell hG.out 1; have y2 := blk_cell hG.out 2; have y3 := blk_cell hG.out 3
    simp only [List.getElem?_toArray, List.getElem?_cons_zero, List.getElem?_cons_succ] at y0 y1 y2 y3
    have f0 := Wk.blk_frozen hG.out 0; have f1 := Wk.blk_frozen hG.out 1; have f2 := Wk.blk_frozen hG.out 2; have f3 := Wk.blk_frozen hG.out 3
    have t0 := blk_cell hR.out 0; have t1 := blk_cell hR.out 1; have t2 := blk_cell hR.out 2; have t3 := blk_cell hR.out 3
    simp only [List.getElem?_toArray, List.getElem?_cons_zero, List.getElem?_cons_succ] at t0 t1 t2 t3
    have e0 := Wk.blk_frozen hR.out 0; have e1 := Wk.blk_frozen hR.out 1; have e2 := Wk.blk_frozen hR.out 2; have e3 := Wk.blk_frozen hR.out 3
    have hRG : ¬ w.heap.size = G := by omega
    have hGR : ¬ G = w.heap.size := by omega
    have xu := hu.out
    clear x0 xl n1
    by_cases h13 : c = 13
    · have hrp : p = r := by have := HR.out; rw [decide_eq_true h13, Bool.true_and] at this; exact this
      subst hrp
      have q1 : decide (c = 13) = true := decide_eq_true h13
      have q2 : (c == 13) = true := by rw [beq_iff_eq]; exact h13
      clear h13 HR
      cases p with
      | false =>
        go_wp2_with (go_at_call 86; (try rw [EX.out]); (with_reducible refine (HP.out _).mono ?_); rintro e w4 ⟨rfl, rfl⟩)
        have hF := set4b (a := .int .i64 o) (b := .int .i64 T) (c := .int .i64 m) (d := .int .i64 x) hR.out
        have hbF := set4l (a := .int .i64 o) (b := .int .i64 T) (c := .int .i64 m) (d := .int .i64 x) hB.out (Nat.le_refl _)
        have d0 := blk_cell hF 0; have d1 := blk_cell hF 1; have d2 := blk_cell hF 2; have d3 := blk_cell hF 3
        simp only [List.getElem?_toArray, List.getElem?_cons_zero, List.getElem?_cons_succ] at d0 d1 d2 d3
        refine bodyPost_ret (v := .agg #[.int .i64 o, .int .i64 T, .int .i64 m, .int .i64 x]) (by simp [results, Tryd.results70, go_sem, d0, d1, d2, d3]) rfl ⟨rfl, hbF⟩
      | true =>
        go_wp2_with (go_at_call 86; (try rw [EX.out]); (with_reducible refine (HP.out _).mono ?_); rintro e w4 ⟨rfl, rfl⟩)
        have hF := set4b (a := .int .i64 o) (b := .int .i64 T) (c := .int .i64 1) (d := .int .i64 0) (Wk.blk_far (p := ⟨G, 3, none⟩) (Wk.blk_far (p := ⟨G, 2, none⟩) hR.out hRG (.int .i64 1)) hRG (.int .i64 0))
        have hbF := set4l (a := .int .i64 o) (b := .int .i64 T) (c := .int .i64 1) (d := .int .i64 0) (bel_set (p := ⟨G, 3, none⟩) (bel_set (p := ⟨G, 2, none⟩) hB.out (by show _ ≤ G; omega) (.int .i64 1)) (by show _ ≤ G; omega) (.int .i64 0)) (Nat.le_refl _)
        have d0 := blk_cell hF 0; have d1 := blk_cell hF 1; have d2 := blk_cell hF 2; have d3 := blk_cell hF 3
        simp only [List.getElem?_toArray, List.getElem?_cons_zero, List.getElem?_cons_succ] at d0 d1 d2 d3
        refine bodyPost_ret (v := .agg #[.int .i64 o, .int .i64 T, .int .i64 1, .int .i64 0]) (by simp [results, Tryd.results70, go_sem, d0, d1, d2, d3]) rfl ⟨rfl, hbF⟩
    · obtain rfl : false = r := by have := HR.out; rw [decide_eq_false h13, Bool.false_and] at this; exact this
      have q1 : decide (c = 13) = false := decide_eq_false h13
      have q2 : (c == 13) = false := by rw [beq_eq_false_iff_ne]; exact h13
      clear h13 HR
      go_wp2_with fail
      have hF := set4b (a := .int .i64 o) (b := .int .i64 T) (c := .int .i64 m) (d := .int .i64 x) hR.out
      have hbF := set4l (a := .int .i64 o) (b := .int .i64 T) (c := .int .i64 m) (d := .int .i64 x) hB.out (Nat.le_refl _)
      have d0 := blk_cell hF 0; have d1 := blk_cell hF 1; have d2 := blk_cell hF 2; have d3 := blk_cell hF 3
      simp only [List.getElem?_toArray, List.getElem?_cons_zero, List.getElem?_cons_succ] at d0 d1 d2 d3
      refine bodyPost_ret (v := .agg #[.int .i64 o, .int .i64 T, .int .i64 m, .int .i64 x]) (by simp [results, Tryd.results70, go_sem, d0, d1, d2, d3]) rfl ⟨rfl, hbF⟩
end Go.Proofs.YtoodidokjchplaaDoor.Un
