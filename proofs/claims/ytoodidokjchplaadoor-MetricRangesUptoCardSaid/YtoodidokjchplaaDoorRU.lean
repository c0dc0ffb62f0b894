/- The reference's Units, Count: walked. -/
import Derived.Test.YtoodidokjchplaaDoorRC
import Derived.Test.YtoodidokjchplaaDoorRW
namespace Go.Proofs.YtoodidokjchplaaDoor.Un
open Go Go.RowKit Go.Shelf
open Go.Proofs.YtoodidokjchplaaDoor.Wk (bcell bel_drew bel_drewN bel_alloc bel_set bel_call size_len blk_cell blk_below blk_lt mk_data cells_new)
set_option linter.unusedVariables false
set_option linter.unusedSimpArgs false
theorem lead2 {n : Nat} (h : (lead n).1 = 2) : 194 ≤ n ∧ n < 224 := by
  rw [lead_eq] at h
  repeat' split at h
  all_goals (simp at h; try omega)
theorem lead3 {n : Nat} (h : (lead n).1 = 3) : (n = 224 ∧ lead n = (3, 160, 191)) ∨ (224 < n ∧ n < 240) := by
  by_cases q : n = 224
  · exact .inl ⟨q, by rw [q]; rfl⟩
  · refine .inr ?_
    rw [lead_eq] at h
    repeat' split at h
    all_goals (simp at h; try omega)
theorem lead4 {n : Nat} (h : (lead n).1 = 4) : (n = 240 ∧ lead n = (4, 144, 191)) ∨ (240 < n ∧ n < 245) := by
  by_cases q : n = 240
  · exact .inl ⟨q, by rw [q]; rfl⟩
  · refine .inr ?_
    rw [lead_eq] at h
    repeat' split at h
    all_goals (simp at h; try omega)
theorem fst_szR (l : List UInt8) (hl : l ≠ []) (h : 0 ≤ (fst l).1) : szR (fst l).1 = (fst l).2 := by
  match l, hl with
  | a :: r, _ =>
    rcases fst_cases a r with ⟨g1, g2, _⟩ | ⟨g1, g2⟩ | ⟨b, r', rfl, g0, hs, g2, _⟩ | ⟨b, c, r', rfl, g0, hs, hc, g2, _⟩ | ⟨b, c, d, r', rfl, g0, hs, hc, hd, g2, _⟩
    · rw [g2]; show szR (a.toNat : Int) = ((1 : Nat) : Int); unfold szR; rw [if_pos (by omega)]; rfl
    · rw [g2] at h; simp at h
    · rw [g2]
      have k := lead2 g0
      have kb := sec_cont hs (by omega)
      refine (szR_iff2 _).2 ?_
      show 128 ≤ ((two a.toNat b.toNat : Nat) : Int) ∧ ((two a.toNat b.toNat : Nat) : Int) < 2048
      unfold two
      omega
    · rw [g2]
      have kb := sec_cont hs (by omega)
      have kc := (cont_iff c).1 hc
      refine (szR_iff3 _).2 ?_
      show 2048 ≤ ((thr a.toNat b.toNat c.toNat : Nat) : Int) ∧ ((thr a.toNat b.toNat c.toNat : Nat) : Int) < 65536
      unfold thr
      rcases lead3 g0 with ⟨q, l⟩ | q
      · have h2 := (sec_iff a b).1 hs
        rw [l] at h2
        simp only at h2
        omega
      · omega
    · rw [g2]
      have kb := sec_cont hs (by omega)
      have kc := (cont_iff c).1 hc
      have kd := (cont_iff d).1 hd
      refine (szR_iff4 _).2 ?_
      show 65536 ≤ ((fou a.toNat b.toNat c.toNat d.toNat : Nat) : Int)
      unfold fou
      rcases lead4 g0 with ⟨q, l⟩ | q
      · have h2 := (sec_iff a b).1 hs
        rw [l] at h2
        simp only at h2
        omega
      · omega
theorem fst_neg1 (l : List UInt8) (hl : l ≠ []) (h : (fst l).1 < 0) : (fst l).2 = 1 := by
  match l, hl with
  | a :: r, _ =>
    rcases fst_cases a r with ⟨g1, g2, _⟩ | ⟨g1, g2⟩ | ⟨b, r', rfl, g0, hs, g2, _⟩ | ⟨b, c, r', rfl, g0, hs, hc, g2, _⟩ | ⟨b, c, d, r', rfl, g0, hs, hc, hd, g2, _⟩
    · rw [g2]
    · rw [g2]
    · rw [g2] at h; simp at h; omega
    · rw [g2] at h; simp at h; omega
    · rw [g2] at h; simp at h; omega
/-- A row of units, flat. -/
def ucR (L : List (Int × Nat)) : List Value := L.flatMap fun u => [.int .i32 u.1, .int .i64 (u.2 : Nat)]
theorem ucR_snoc (L : List (Int × Nat)) (u : Int × Nat) : ucR (L ++ [u]) = ucR L ++ [.int .i32 u.1, .int .i64 (u.2 : Nat)] := by unfold ucR; rw [List.flatMap_append]; simp
theorem own_far {W : World} {B e k n G i : Nat} {v u : Value} {xs : List Value} (h : World.ownsRow W B e k v n xs) (hG : W.heap.size ≤ G + 1) (hne : ∀ g, v.ownBlock = some g → g ≠ G) : World.ownsRow (W.setCell ⟨G, i, none⟩ u) B e k v n xs := by
  refine ⟨h.1, ?_⟩
  rcases h.2 with h2 | ⟨g, cap, cur, rfl, hg, hh, r⟩
  · exact .inl h2
  · exact .inr ⟨g, cap, cur, rfl, hg, Wk.blk_far hh (hne g rfl) _, r⟩
theorem infoUn : (Tryd.prog.info? 88).map (fun i => (i.zero, i.size, i.bytes)) = some (some (.agg #[.int .i32 0, .int .i64 0]), 2, 16) := by kernel_rfl
set_option maxRecDepth 100000 in
set_option maxHeartbeats 4000000 in
theorem runits_calls (s : ByteArray) (hs : s.size ≤ 1000000000) (w : World) :
    Calls Tryd.prog 62 #[.string s] w fun e w' => ∃ v, e = .returned v ∧ World.ownsRow w' w.heap.size 88 2 v (unitsOf s.data.toList).length (ucR (unitsOf s.data.toList)) ∧ Below w.heap.size w w' := by
  obtain ⟨i0, hi0, hz0, hz1, hz2⟩ := info_parts infoUn
  have HI := Lib.hid (show Tryd.prog.info? 88 = some i0 ∧ i0.zero = some (.agg #[.int .i32 0, .int .i64 0]) ∧ i0.size = 2 ∧ i0.bytes = 16 from ⟨hi0, hz0, hz1, hz2⟩)
  clear hi0 hz0 hz1 hz2
  obtain ⟨l, hl⟩ : ∃ l, s.data.toList = l := ⟨_, rfl⟩
  have hlen : l.length = s.size := by rw [← hl]; exact size_len s
  rw [hl]
  replace hl := Lib.hid hl
  replace hlen := Lib.hid hlen
  go_enter Tryd.func62, Tryd.ntmps62
  go_wp2_with fail
  go_loopw [3, 4] (fun v3 v4 wr => ∃ (i : Nat) (L : List (Int × Nat)), v4 = .int .i64 i ∧ i ≤ s.size ∧ L.length ≤ i ∧ Hid (unitsOf l = L ++ unitsOf (l.drop i)) ∧ Hid (World.ownsRow wr w.heap.size 88 2 v3 L.length (ucR L)) ∧ Hid (Below w.heap.size w wr)) (fun v3 v4 _ => s.size - (intOf v4).toNat)
  case atStart => exact ⟨0, [], rfl, by omega, by simp, rfl, World.ownsRow_nil _ _ _ _, Below.refl _ _⟩
  case round =>
    obtain ⟨i, L, rfl, hi, hLi, hu, ho, hb⟩ := hrel
    by_cases hlt : i < s.size
    · have hlt' : (i : Int) < s.size := by omega
      have hne : l.drop i ≠ [] := by
        intro h
        have := congrArg List.length h
        rw [List.length_drop, hlen.out] at this
        simp at this
        omega
      have hx : (s.extract i s.size).data.toList = l.drop i := by rw [Lib.extract_to_end, hl.out]
      have hxs : (s.extract i s.size).size = s.size - i := by simp
      obtain ⟨c, n, hp⟩ : ∃ c n, fst (l.drop i) = (c, n) := ⟨_, _, rfl⟩
      have hpos := fst_pos (l.drop i)
      have hle := fst_le (l.drop i) hne
      have hsz := fst_szR (l.drop i) hne
      have hng := fst_neg1 (l.drop i) hne
      rw [hp] at hpos hle hsz hng
      rw [List.length_drop, hlen.out] at hle
      simp only at hpos hle hsz hng
      have hbg : bgR (l.drop i) = c := by
        obtain ⟨a, r, e⟩ : ∃ a r, l.drop i = a :: r := by
          cases h : l.drop i with
          | nil => exact absurd h hne
          | cons a r => exact ⟨a, r, rfl⟩
        rw [e, bgR_fst, ← e, hp]
      have BC := Lib.hid (fun W => rbegins_calls (s.extract i s.size) (by rw [hxs]; omega) (by rw [hxs]; omega) W)
      rw [hx, hbg] at BC
      have SZ := Lib.hid (fun W => rsize_calls c W)
      have hun := units_cons hne
      rw [hp] at hun
      have hu2 : unitsOf l = (L ++ [(c, n)]) ++ unitsOf (l.drop (i + n)) := by
        rw [hu.out, hun, List.drop_drop, List.append_assoc]; rfl
      have HU := Lib.hid hu2
      have hpi : IntKind.i64.wrap ((i : Int) + (n : Nat)) = ((i + n : Nat) : Int) := by rw [w64_id (by omega)]; omega
      obtain ⟨j, hj⟩ : ∃ j, i + n = j := ⟨_, rfl⟩
      rw [hj] at HU hpi
      have HJ := Lib.hid (show i + n = j ∧ 1 ≤ n ∧ n ≤ s.size - i ∧ (0 ≤ c → szR c = n) ∧ (c < 0 → n = 1) from ⟨hj, hpos, hle, hsz, hng⟩)
      obtain ⟨Ad, cp, rfl⟩ : ∃ A c, u3 = .slice A L.length c := by
        rcases ho.out.2 with ⟨h1, h2⟩ | ⟨g, cap, cur, h1, -⟩
        · exact ⟨none, 0, by rw [h1, h2]⟩
        · exact ⟨_, cap, h1⟩
      clear hne hx hxs hp hbg hun hu2 hj hpos hle hsz hng hu
      go_upto_if 17 with (first
        | (go_at_call 76; (with_reducible refine (BC.out _).mono ?_); rintro e w1 ⟨rfl, rfl⟩))
      have hbx := heap_alloc_new w1 (.cells #[.int .i32 c, .int .i64 1] 88)
      have ho1 := World.ownsRow.alloc ho.out (.cells #[.int .i32 c, .int .i64 1] 88)
      have hb1 := bel_alloc hb.out (.cells #[.int .i32 c, .int .i64 1] 88)
      have hs1 : (w1.alloc (.cells #[.int .i32 c, .int .i64 1] 88)).heap.size = w1.heap.size + 1 := Wk.size_alloc _ _
      have hog : ∀ g, (Value.slice Ad L.length cp).ownBlock = some g → g ≠ w1.heap.size := fun g hg => by have := (ho.out.lt g hg).2; omega
      have hbs := hb.out.size
      obtain ⟨G, hG⟩ : ∃ G, w1.heap.size = G := ⟨_, rfl⟩
      obtain ⟨W1, hW1⟩ : ∃ W1, w1.alloc (.cells #[.int .i32 c, .int .i64 1] 88) = W1 := ⟨_, rfl⟩
      rw [hW1] at hbx ho1 hb1 hs1
      rw [hG] at hbx hs1 hog hbs
      rw [hG, hW1]
      clear hG hW1 ho hb BC
      have u0 := blk_cell hbx 0
      have u1' := blk_cell hbx 1
      simp only [List.getElem?_toArray, List.getElem?_cons_zero, List.getElem?_cons_succ] at u0 u1'
      have uf := Wk.blk_frozen hbx 1
      have HX := Lib.hid hbx
      have HO := Lib.hid ho1
      have HB := Lib.hid hb1
      have HS := Lib.hid hs1
      have HG := Lib.hid hog
      have HBS := Lib.hid hbs
      clear hbx ho1 hb1 hs1 hog hbs
      go_cut [5] (fun v5 W => v5 = .pointer (some ⟨G, 0, none⟩) ∧ Hid (W.heap[G]? = some (.cells #[.int .i32 c, .int .i64 (n : Nat)] 88 (0, 0))) ∧ Hid (World.ownsRow W w.heap.size 88 2 (.slice Ad L.length cp) L.length (ucR L)) ∧ Hid (Below w.heap.size w W))
      case first =>
        by_cases hc : 0 ≤ c
        · go_wp2_with (first
            | (go_at_call 77; (with_reducible refine (SZ.out _).mono ?_); rintro e w2 ⟨rfl, rfl⟩))
          go_meet
          refine ⟨rfl, Lib.hid ?_, Lib.hid (own_far HO.out (by rw [HS.out]; omega) HG.out), Lib.hid (bel_set HB.out HBS.out _)⟩
          rw [← HJ.out.2.2.2.1 hc]
          exact Wk.blk_set HX.out 1 _
        · have hc' : c < 0 := by omega
          have hn1 := HJ.out.2.2.2.2 hc'
          subst hn1
          clear hc
          go_wp2_with fail
          go_meet
          exact ⟨rfl, HX, HO, HB⟩
      case rest =>
        obtain ⟨rfl, hx, ho, hb⟩ := hcut
        clear u0 u1' uf HX HO HB HS SZ
        have x0 := blk_cell hx.out 0
        have x1 := blk_cell hx.out 1
        simp only [List.getElem?_toArray, List.getElem?_cons_zero, List.getElem?_cons_succ] at x0 x1
        have hgl : G < wc.heap.size := blk_lt hx.out
        replace hgl := Lib.hid hgl
        go_wp2_with (first
          | (at_builtin; go_loud (refine wpList_append_own _ rfl _ _ 84 rfl w.heap.size 88 i0 (.agg #[.int .i32 0, .int .i64 0]) 2 16 Tryd.underlying84 HI.out.1 HI.out.2.1 HI.out.2.2.1 HI.out.2.2.2 rfl (by decide) _ _ _ rfl (World.ownsRow.alloc ho.out _) ⟨wc.heap.size, 0, none⟩ 1 1 [.int .i32 c, .int .i64 (n : Nat)] rfl rfl ?c1 ?c2 ?c3 ?c4 ?c5 ?_)))
        case c1 =>
          intro j u hj
          exact cells_new wc _ 88 j u hj
        case c2 => simp [Value.oneCell']
        case c3 => unfold maxLen; omega
        case c4 => omega
        case c5 => have h1 := hb.out.size; simp at h1 ⊢; omega
        intro v' w2 hown' hgrow _
        have hb3 := (bel_alloc hb.out (.cells #[.int .i32 c, .int .i64 (n : Nat)] 88)).grown hgrow (by have h1 := hb.out.size; simp at h1 ⊢; omega) (fun k hk => (ho.out.lt k hk).1)
        have hx2 : w2.heap[G]? = some (.cells #[.int .i32 c, .int .i64 (n : Nat)] 88 (0, 0)) := by
          rw [hgrow.block G (by have := hgl.out; rw [Wk.size_alloc]; omega) (fun e => HG.out G e.symm rfl)]
          exact Wk.blk_alloc hx.out _
        have ho3 : World.ownsRow w2 w.heap.size 88 2 v' (L ++ [(c, n)]).length (ucR (L ++ [(c, n)])) := by
          rw [ucR_snoc, List.length_append]
          exact hown'
        have HB3 := Lib.hid hb3
        have HO3 := Lib.hid ho3
        have y1 := blk_cell hx2 1
        simp only [List.getElem?_toArray, List.getElem?_cons_zero, List.getElem?_cons_succ] at y1
        clear hown' hgrow hb3 ho3 hx2 x0 x1 hgl
        go_wp2_with fail
        go_roundw
        case rel => exact ⟨j, L ++ [(c, n)], rfl, by have := HJ.out; omega, by have := HJ.out; simp; omega, HU.out, HO3.out, HB3.out⟩
        case measure => have := HJ.out; simp [intOf]; omega
    · have hie : l.drop i = [] := List.drop_eq_nil_of_le (by rw [hlen.out]; omega)
      have hfin : unitsOf l = L := by rw [hu.out, hie, units_nil, List.append_nil]
      obtain ⟨Ad, cp, rfl⟩ : ∃ A c, u3 = .slice A L.length c := by
        rcases ho.out.2 with ⟨h1, h2⟩ | ⟨g, cap, cur, h1, -⟩
        · exact ⟨none, 0, by rw [h1, h2]⟩
        · exact ⟨_, cap, h1⟩
      have HFin := Lib.hid hfin
      clear hie hfin hu
      go_wp2_with fail
      go_ret
      exact ⟨_, rfl, by rw [HFin.out]; exact ho.out, hb.out⟩
end Go.Proofs.YtoodidokjchplaaDoor.Un
