/- unit.Count, metric.head, tail, Measure: walked. -/
import Derived.Test.YtoodidokjchplaaDoorCX
namespace Go.Proofs.YtoodidokjchplaaDoor.Un
open Go Go.RowKit Go.Shelf
open Go.Proofs.YtoodidokjchplaaDoor.Wk (bcell bel_drew bel_drewN bel_alloc bel_set bel_call size_len blk_cell blk_below blk_lt mk_data)
set_option linter.unusedVariables false
set_option linter.unusedSimpArgs false
theorem dec_size (a : UInt8) (r : List UInt8) : (dec (a :: r)).2 = (fst (a :: r)).2 := by
  rcases dec_fst a r with ⟨h, e⟩ | ⟨h, e, _⟩
  · rw [e]
    rcases fst_cases a r with ⟨g1, g2, _⟩ | ⟨g1, g2⟩ | ⟨b, r', rfl, g0, hs, g2, _⟩ | ⟨b, c, r', rfl, g0, hs, hc, g2, _⟩ | ⟨b, c, d, r', rfl, g0, hs, hc, hd, g2, _⟩
    all_goals rw [g2] at h ⊢
    all_goals (first | rfl | (exfalso; simp only [two, thr, fou] at h; omega))
  · rw [e]
theorem decode_dec (s : ByteArray) (pos : Nat) : Utf8.decode s pos = dec (s.data.toList.drop pos) := by
  rw [Lib.decode_at, get_bang, get_bang, get_bang, get_bang]
  unfold dec
  simp only [List.length_drop, List.getD_eq_getElem?_getD, List.getElem?_drop, Nat.add_zero, size_len]
theorem rc_from (s : ByteArray) : ∀ f pos, s.size - pos ≤ f → Lib.runeCountFrom s f pos = (unitsOf (s.data.toList.drop pos)).length
  | 0, pos, h => by
    rw [List.drop_of_length_le (by rw [size_len]; omega)]; rfl
  | f + 1, pos, h => by
    unfold Lib.runeCountFrom
    by_cases hp : pos < s.size
    · rw [if_pos hp]
      have hne : s.data.toList.drop pos ≠ [] := by
        intro e; have := congrArg List.length e; rw [List.length_drop, List.length_nil, size_len] at this; omega
      obtain ⟨a, r, e⟩ := List.exists_cons_of_ne_nil hne
      have h1 := dec_size a r
      rw [← e, ← decode_dec] at h1
      have hpos := fst_pos (s.data.toList.drop pos)
      rw [h1, rc_from s f _ (by omega), units_cons hne, List.drop_drop, List.length_cons]
      omega
    · rw [if_neg hp, List.drop_of_length_le (by rw [size_len]; omega)]; rfl
theorem rc_eq (s : ByteArray) : Lib.runeCount s = cU s.data.toList := by
  unfold Lib.runeCount cU
  rw [rc_from s s.size 0 (by omega), List.drop_zero]
set_option maxRecDepth 100000 in
theorem ucount_calls (s : ByteArray) (hs : s.size ≤ 1000000000) (w : World) :
    Calls Tryd.prog 20 #[.string s] w fun e w' => e = .returned (.int .i64 (cU s.data.toList : Nat)) ∧ Below w.heap.size w w' := by
  have hc := Tryd.utf8_RuneCountInString s w (by omega)
  rw [rc_eq] at hc
  go_enter Tryd.func20, Tryd.ntmps20
  go_wp2_with (go_at_call 49; (with_reducible refine hc.mono ?_); rintro e w' ⟨rfl, pos, rfl⟩)
  go_ret
  exact ⟨rfl, bel_alloc (Below.refl _ w) _⟩
theorem bytes_of {s : ByteArray} {l : List UInt8} (h : s.data.toList = l) : s = ⟨l.toArray⟩ := by rw [← h, mk_data]
theorem hd_str (s : ByteArray) : s.extract 0 (min s.size 16) = ⟨(hd s.data.toList).toArray⟩ := by
  refine bytes_of ?_
  unfold hd
  rw [ByteArray.data_extract, Array.toList_extract, List.extract_eq_take_drop, List.drop_zero, Nat.sub_zero]
  rcases Nat.le_total s.size 16 with h | h
  · rw [Nat.min_eq_left h, List.take_of_length_le (by rw [size_len]; omega), List.take_of_length_le (by rw [size_len]; omega)]
  · rw [Nat.min_eq_right h]
theorem tl_str (s : ByteArray) : s.extract ((s.size : Int) - min (s.size : Int) 16).toNat s.size = ⟨(tl s.data.toList).toArray⟩ := by
  refine bytes_of ?_
  rw [Lib.extract_to_end]
  unfold tl back
  congr 1
  rw [size_len]
  omega
set_option maxRecDepth 100000 in
theorem head_calls (s : ByteArray) (hs : s.size ≤ 1000000000) (w : World) :
    Calls Tryd.prog 47 #[.string s] w fun e w' => e = .returned (.string ⟨(hd s.data.toList).toArray⟩) ∧ w' = w := by
  have h0 : (0 : Int) ≤ min (s.size : Int) 16 := by omega
  have h1 : min (s.size : Int) 16 ≤ s.size := by omega
  have h2 : (min (s.size : Int) 16).toNat = min s.size 16 := by omega
  go_enter Tryd.func47, Tryd.ntmps47
  go_wp2
  go_ret
  exact ⟨by show Ending.returned (.string (s.extract 0 (min s.size 16))) = _; rw [hd_str], rfl⟩
set_option maxRecDepth 100000 in
theorem tail_calls (s : ByteArray) (hs : s.size ≤ 1000000000) (w : World) :
    Calls Tryd.prog 48 #[.string s] w fun e w' => e = .returned (.string ⟨(tl s.data.toList).toArray⟩) ∧ w' = w := by
  go_enter Tryd.func48, Tryd.ntmps48
  go_wp2
  go_ret
  exact ⟨by show Ending.returned (.string (s.extract ((s.size : Int) - min (s.size : Int) 16).toNat s.size)) = _; rw [tl_str], rfl⟩
theorem set7b {W : World} {G : Nat} {t : TypeId} {z0 z1 z2 z3 z4 z5 z6 a0 a1 a2 a3 a4 a5 a6 : Value} (h : W.heap[G]? = some (.cells #[z0, z1, z2, z3, z4, z5, z6] t (0, 0))) :
    (((((((W.setCell ⟨G, 0, none⟩ a0).setCell ⟨G, 1, none⟩ a1).setCell ⟨G, 2, none⟩ a2).setCell ⟨G, 3, none⟩ a3).setCell ⟨G, 4, none⟩ a4).setCell ⟨G, 5, none⟩ a5).setCell ⟨G, 6, none⟩ a6).heap[G]? = some (.cells #[a0, a1, a2, a3, a4, a5, a6] t (0, 0)) := by
  have h0 : (W.setCell ⟨G, 0, none⟩ a0).heap[G]? = some (.cells #[a0, z1, z2, z3, z4, z5, z6] t (0, 0)) := Wk.blk_set h 0 a0
  have h1 : ((W.setCell ⟨G, 0, none⟩ a0).setCell ⟨G, 1, none⟩ a1).heap[G]? = some (.cells #[a0, a1, z2, z3, z4, z5, z6] t (0, 0)) := Wk.blk_set h0 1 a1
  have h2 : (((W.setCell ⟨G, 0, none⟩ a0).setCell ⟨G, 1, none⟩ a1).setCell ⟨G, 2, none⟩ a2).heap[G]? = some (.cells #[a0, a1, a2, z3, z4, z5, z6] t (0, 0)) := Wk.blk_set h1 2 a2
  have h3 : ((((W.setCell ⟨G, 0, none⟩ a0).setCell ⟨G, 1, none⟩ a1).setCell ⟨G, 2, none⟩ a2).setCell ⟨G, 3, none⟩ a3).heap[G]? = some (.cells #[a0, a1, a2, a3, z4, z5, z6] t (0, 0)) := Wk.blk_set h2 3 a3
  have h4 : (((((W.setCell ⟨G, 0, none⟩ a0).setCell ⟨G, 1, none⟩ a1).setCell ⟨G, 2, none⟩ a2).setCell ⟨G, 3, none⟩ a3).setCell ⟨G, 4, none⟩ a4).heap[G]? = some (.cells #[a0, a1, a2, a3, a4, z5, z6] t (0, 0)) := Wk.blk_set h3 4 a4
  have h5 : ((((((W.setCell ⟨G, 0, none⟩ a0).setCell ⟨G, 1, none⟩ a1).setCell ⟨G, 2, none⟩ a2).setCell ⟨G, 3, none⟩ a3).setCell ⟨G, 4, none⟩ a4).setCell ⟨G, 5, none⟩ a5).heap[G]? = some (.cells #[a0, a1, a2, a3, a4, a5, z6] t (0, 0)) := Wk.blk_set h4 5 a5
  have h6 : (((((((W.setCell ⟨G, 0, none⟩ a0).setCell ⟨G, 1, none⟩ a1).setCell ⟨G, 2, none⟩ a2).setCell ⟨G, 3, none⟩ a3).setCell ⟨G, 4, none⟩ a4).setCell ⟨G, 5, none⟩ a5).setCell ⟨G, 6, none⟩ a6).heap[G]? = some (.cells #[a0, a1, a2, a3, a4, a5, a6] t (0, 0)) := Wk.blk_set h5 6 a6
  exact h6
theorem set7l {w W : World} {G : Nat} {a0 a1 a2 a3 a4 a5 a6 : Value} (h : Below w.heap.size w W) (hG : w.heap.size ≤ G) :
    Below w.heap.size w (((((((W.setCell ⟨G, 0, none⟩ a0).setCell ⟨G, 1, none⟩ a1).setCell ⟨G, 2, none⟩ a2).setCell ⟨G, 3, none⟩ a3).setCell ⟨G, 4, none⟩ a4).setCell ⟨G, 5, none⟩ a5).setCell ⟨G, 6, none⟩ a6) :=
  bel_set (bel_set (bel_set (bel_set (bel_set (bel_set (bel_set h hG _) hG _) hG _) hG _) hG _) hG _) hG _
def smV (m : Sm) : Value := .agg #[.int .i64 m.by', .int .i64 m.un, .int .i64 m.cl, .int .i64 m.ce, .int .i64 m.nl, .string ⟨m.hd.toArray⟩, .string ⟨m.tl.toArray⟩]
set_option maxRecDepth 100000 in
set_option maxHeartbeats 4000000 in
theorem measure_calls (s : ByteArray) (hs : s.size ≤ 1000000000) (w : World) (hT : Tb w) :
    Calls Tryd.prog 19 #[.string s] w fun e w' => e = .returned (smV (meas s.data.toList)) ∧ Below w.heap.size w w' := by
  have HT := Lib.hid hT
  have U := Lib.hid (fun W => ucount_calls s hs W)
  have C := Lib.hid (fun W hW => count_calls s hs W hW)
  have X := Lib.hid (fun W hW => cellsum_calls s hs W hW)
  have N := Lib.hid (fun W => Tryd.strings_Count_one s 10 W)
  have H := Lib.hid (fun W => head_calls s hs W)
  have TL := Lib.hid (fun W => tail_calls s hs W)
  have hlen := size_len s
  unfold smV meas
  obtain ⟨u, hu⟩ : ∃ u, cU s.data.toList = u := ⟨_, rfl⟩
  obtain ⟨c, hc⟩ : ∃ c, cC s.data.toList = c := ⟨_, rfl⟩
  obtain ⟨x, hx⟩ : ∃ x, cX s.data.toList = x := ⟨_, rfl⟩
  obtain ⟨n, hn⟩ : ∃ n, s.data.toList.count 10 = n := ⟨_, rfl⟩
  obtain ⟨h, hh⟩ : ∃ h, hd s.data.toList = h := ⟨_, rfl⟩
  obtain ⟨t, ht⟩ : ∃ t, tl s.data.toList = t := ⟨_, rfl⟩
  have hcb : Lib.countByte s.data.toList 10 = n := hn
  rw [hu] at U
  rw [hc] at C
  rw [hx] at X
  rw [hcb] at N
  rw [hh] at H
  rw [ht] at TL
  simp only [hu, hc, hx, hn, hh, ht, hlen]
  clear hT hu hc hx hn hh ht hcb hlen
  go_enter Tryd.func19, Tryd.ntmps19
  have hA := bel_alloc (Below.refl _ w) (.cells #[.int .i64 0, .int .i64 0, .int .i64 0, .int .i64 0, .int .i64 0, .string ⟨#[]⟩, .string ⟨#[]⟩] 26)
  go_wp2_with (first
    | (go_at_call 20; (with_reducible refine (U.out _).mono ?_); rintro e w1 ⟨rfl, b1⟩; have k1 := bel_call hA b1; have r1 := blk_below (heap_alloc_new w (.cells #[.int .i64 0, .int .i64 0, .int .i64 0, .int .i64 0, .int .i64 0, .string ⟨#[]⟩, .string ⟨#[]⟩] 26)) b1)
    | (go_at_call 21; (with_reducible refine (C.out _ (HT.out.below k1)).mono ?_); rintro e w2 ⟨rfl, b2⟩; have k2 := bel_call k1 b2; have r2 := blk_below r1 b2)
    | (go_at_call 22; (with_reducible refine (X.out _ (HT.out.below k2)).mono ?_); rintro e w3 ⟨rfl, b3⟩; have k3 := bel_call k2 b3; have r3 := blk_below r2 b3; have y0 := blk_cell r3 0; have y1 := blk_cell r3 1; have y2 := blk_cell r3 2; have y3 := blk_cell r3 3; have y4 := blk_cell r3 4; have y5 := blk_cell r3 5; have y6 := blk_cell r3 6; simp only [List.getElem?_toArray, List.getElem?_cons_zero, List.getElem?_cons_succ] at y0 y1 y2 y3 y4 y5 y6; have e0 := Wk.blk_frozen r3 0; have e1 := Wk.blk_frozen r3 1; have e2 := Wk.blk_frozen r3 2; have e3 := Wk.blk_frozen r3 3; have e4 := Wk.blk_frozen r3 4; have e5 := Wk.blk_frozen r3 5; have e6 := Wk.blk_frozen r3 6)
    | (go_at_call 46; (with_reducible refine (N.out _).mono ?_); rintro e w4 ⟨rfl, rfl⟩)
    | (go_at_call 47; (with_reducible refine (H.out _).mono ?_); rintro e w5 ⟨rfl, rfl⟩)
    | (go_at_call 48; (with_reducible refine (TL.out _).mono ?_); rintro e w6 ⟨rfl, rfl⟩))
  have hF := set7b (a0 := .int .i64 s.size) (a1 := .int .i64 u) (a2 := .int .i64 c) (a3 := .int .i64 x) (a4 := .int .i64 n) (a5 := .string ⟨h.toArray⟩) (a6 := .string ⟨t.toArray⟩) r3
  have hB := set7l (a0 := .int .i64 s.size) (a1 := .int .i64 u) (a2 := .int .i64 c) (a3 := .int .i64 x) (a4 := .int .i64 n) (a5 := .string ⟨h.toArray⟩) (a6 := .string ⟨t.toArray⟩) k3 (Nat.le_refl _)
  have d0 := blk_cell hF 0; have d1 := blk_cell hF 1; have d2 := blk_cell hF 2; have d3 := blk_cell hF 3; have d4 := blk_cell hF 4; have d5 := blk_cell hF 5; have d6 := blk_cell hF 6
  simp only [List.getElem?_toArray, List.getElem?_cons_zero, List.getElem?_cons_succ] at d0 d1 d2 d3 d4 d5 d6
  refine bodyPost_ret (v := .agg #[.int .i64 s.size, .int .i64 u, .int .i64 c, .int .i64 x, .int .i64 n, .string ⟨h.toArray⟩, .string ⟨t.toArray⟩]) (by simp [results, Tryd.results19, go_sem, d0, d1, d2, d3, d4, d5, d6]) rfl ⟨rfl, hB⟩
end Go.Proofs.YtoodidokjchplaaDoor.Un
