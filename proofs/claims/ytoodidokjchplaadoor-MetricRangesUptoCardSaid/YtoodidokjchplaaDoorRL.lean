/- The reference's List of clusters: walked. -/
import Derived.Test.YtoodidokjchplaaDoorRK
namespace Go.Proofs.YtoodidokjchplaaDoor.Un
open Go Go.RowKit Go.Shelf
open Go.Proofs.YtoodidokjchplaaDoor.Wk (bcell bel_drew bel_drewN bel_alloc bel_set bel_call size_len blk_cell blk_below blk_lt mk_data cells_new)
set_option linter.unusedVariables false
set_option linter.unusedSimpArgs false
theorem ucR_get : ∀ (L : List (Int × Nat)) (i : Nat) (hi : i < L.length), (ucR L)[i * 2]? = some (.int .i32 L[i].1) ∧ (ucR L)[i * 2 + 1]? = some (.int .i64 (L[i].2 : Nat))
  | m :: r, 0, _ => ⟨rfl, rfl⟩
  | m :: r, i + 1, hi => by
    have h := ucR_get r i (by simpa using hi)
    have e : ucR (m :: r) = .int .i32 m.1 :: .int .i64 (m.2 : Nat) :: ucR r := rfl
    rw [e, show (i + 1) * 2 = i * 2 + 1 + 1 by omega]
    simpa using h
theorem own_u {W : World} {B e n c : Nat} {A : Option Addr} {L : List (Int × Nat)} (h : World.ownsRow W B e 2 (.slice A n c) n (ucR L)) (hn : n = L.length) : ∀ i (hi : i < L.length), ∃ g, A = some ⟨g, 0, none⟩ ∧ W.cell? ⟨g, i * 2, none⟩ = some (.int .i32 L[i].1) ∧ W.cell? ⟨g, i * 2 + 1, none⟩ = some (.int .i64 (L[i].2 : Nat)) := by
  intro i hi
  rcases h.2 with ⟨h1, h0⟩ | ⟨g, cap, cur, h1, hg, hh, hc, _, hsz, htk⟩
  · omega
  · simp only [Value.slice.injEq] at h1
    obtain ⟨rfl, -, rfl⟩ := h1
    have hr := ucR_get L i hi
    refine ⟨g, rfl, ?_, ?_⟩
    · rw [blk_cell hh, ← hr.1, ← htk, List.getElem?_take_of_lt (by omega), Array.getElem?_toList]
    · rw [blk_cell hh, ← hr.2, ← htk, List.getElem?_take_of_lt (by omega), Array.getElem?_toList]
def prevO (U : List (Int × Nat)) : Nat → Option Int
  | 0 => none
  | k + 1 => (U[k]?).map (·.1)
theorem prevO_at {U : List (Int × Nat)} {i : Nat} (h : i < U.length) : prevO U (i + 1) = some U[i].1 := by simp [prevO, h]
theorem runK_step {U : List (Int × Nat)} {i : Nat} (h : i < U.length) (K : List Int) (p : Option Int) : runK p K (U.drop i) = runK (some U[i].1) (stK p U[i].1 K) (U.drop (i + 1)) := by
  rw [List.drop_eq_getElem_cons h]
  rfl
theorem own_far2 {W : World} {B e k n G i : Nat} {v u : Value} {xs : List Value} (h : World.ownsRow W B e k v n xs) (hne : ∀ g, v.ownBlock = some g → g ≠ G) : World.ownsRow (W.setCell ⟨G, i, none⟩ u) B e k v n xs := by
  refine ⟨h.1, ?_⟩
  rcases h.2 with h2 | ⟨g, cap, cur, rfl, hg, hh, r⟩
  · exact .inl h2
  · exact .inr ⟨g, cap, cur, rfl, hg, Wk.blk_far hh (hne g rfl) _, r⟩
structure PQ (WA : World) (G g2 n c : Nat) (Q : List (Int × Int × Int × Int)) (b0 b1 b2 b3 : Int) (W : World) : Prop where
  bel : Below WA.heap.size WA W
  box : W.heap[G]? = some (.cells #[.int .i64 b0, .int .i64 b1, .int .i64 b2, .int .i64 b3] 62 (0, 0))
  own : World.ownsRow W WA.heap.size 62 4 (.slice (some ⟨g2, 0, none⟩) n c) n (flC Q)
  lt : g2 < G ∧ WA.heap.size ≤ G
theorem PQ.set1 {WA W : World} {G g2 n c : Nat} {Q : List (Int × Int × Int × Int)} {b0 b1 b2 b3 : Int} (h : PQ WA G g2 n c Q b0 b1 b2 b3 W) (t : Int) : PQ WA G g2 n c Q b0 t b2 b3 (W.setCell ⟨G, 1, none⟩ (.int .i64 t)) :=
  ⟨bel_set h.bel h.lt.2 _, Wk.blk_set h.box 1 _, own_far2 h.own (fun g e => by cases e; have := h.lt.1; show g2 ≠ G; omega), h.lt⟩
theorem PQ.set2 {WA W : World} {G g2 n c : Nat} {Q : List (Int × Int × Int × Int)} {b0 b1 b2 b3 : Int} (h : PQ WA G g2 n c Q b0 b1 b2 b3 W) (t : Int) : PQ WA G g2 n c Q b0 b1 t b3 (W.setCell ⟨G, 2, none⟩ (.int .i64 t)) :=
  ⟨bel_set h.bel h.lt.2 _, Wk.blk_set h.box 2 _, own_far2 h.own (fun g e => by cases e; have := h.lt.1; show g2 ≠ G; omega), h.lt⟩
theorem PQ.set3 {WA W : World} {G g2 n c : Nat} {Q : List (Int × Int × Int × Int)} {b0 b1 b2 b3 : Int} (h : PQ WA G g2 n c Q b0 b1 b2 b3 W) (t : Int) : PQ WA G g2 n c Q b0 b1 b2 t (W.setCell ⟨G, 3, none⟩ (.int .i64 t)) :=
  ⟨bel_set h.bel h.lt.2 _, Wk.blk_set h.box 3 _, own_far2 h.own (fun g e => by cases e; have := h.lt.1; show g2 ≠ G; omega), h.lt⟩
theorem PQ.cs {WA W : World} {G g2 n c : Nat} {Q : List (Int × Int × Int × Int)} {b0 b1 b2 b3 : Int} (h : PQ WA G g2 n c Q b0 b1 b2 b3 W) : W.cell? ⟨G, 0, none⟩ = some (.int .i64 b0) ∧ W.cell? ⟨G, 1, none⟩ = some (.int .i64 b1) ∧ W.cell? ⟨G, 2, none⟩ = some (.int .i64 b2) ∧ W.cell? ⟨G, 3, none⟩ = some (.int .i64 b3) ∧ (∀ k, W.frozen? ⟨G, k, none⟩ = false) :=
  ⟨blk_cell h.box 0, blk_cell h.box 1, blk_cell h.box 2, blk_cell h.box 3, fun k => Wk.blk_frozen h.box k⟩
set_option maxRecDepth 100000 in
set_option maxHeartbeats 8000000 in
theorem rlist_calls (s : ByteArray) (hs : s.size ≤ 1000000000) (w : World) :
    Calls Tryd.prog 43 #[.string s] w fun e w' => ∃ v Q, e = .returned v ∧ World.ownsRow w' w.heap.size 62 4 v Q.length (flC Q) ∧ Q.map (fun q => q.2.2.2) = runK none [] (unitsOf s.data.toList) ∧ Below w.heap.size w w' := by
  have UC := Lib.hid (fun W => runits_calls s hs W)
  have hul := units_len s.data.toList.length s.data.toList (Nat.le_refl _)
  rw [size_len] at hul
  obtain ⟨U, hU⟩ : ∃ U, unitsOf s.data.toList = U := ⟨_, rfl⟩
  rw [hU] at UC hul
  rw [hU]
  clear hU
  obtain ⟨i0, hi0, hz0, hz1, hz2⟩ := info_parts infoCl
  have HI := Lib.hid (show Tryd.prog.info? 62 = some i0 ∧ i0.zero = some (.agg #[.int .i64 0, .int .i64 0, .int .i64 0, .int .i64 0]) ∧ i0.size = 4 ∧ i0.bytes = 32 from ⟨hi0, hz0, hz1, hz2⟩)
  clear hi0 hz0 hz1 hz2
  obtain ⟨KF, hKF⟩ : ∃ KF, runK none [] U = KF := ⟨_, rfl⟩
  rw [hKF]
  replace hKF := Lib.hid hKF
  go_enter Tryd.func43, Tryd.ntmps43
  go_wp2_with (first
    | (go_at_call 62; (with_reducible refine (UC.out _).mono ?_); rintro e WA ⟨v, rfl, ho, hb⟩; obtain ⟨Ad, cp, rfl⟩ := own_len ho))
  have HUc := Lib.hid (own_u ho rfl)
  have HBA := Lib.hid hb
  clear ho hb UC
  go_loopw [3, 5, 6] (fun v3 v5 v6 wr => ∃ (i : Nat) (a : Int) (Q : List (Int × Int × Int × Int)), v5 = .int .i64 a ∧ v6 = .int .i64 i ∧ i ≤ U.length ∧ Q.length ≤ i ∧ Hid (0 < i → Q ≠ []) ∧ Hid (runK (prevO U i) (Q.map (fun q => q.2.2.2)) (U.drop i) = KF) ∧ Hid (World.ownsRow wr WA.heap.size 62 4 v3 Q.length (flC Q)) ∧ Hid (Below WA.heap.size WA wr)) (fun v3 v5 v6 _ => U.length - (intOf v6).toNat)
  case atStart => exact ⟨0, 0, [], rfl, rfl, by omega, by simp, fun h => absurd h (by omega), hKF.out, World.ownsRow_nil _ _ _ _, Below.refl _ _⟩
  case round =>
    obtain ⟨i, a, Q, rfl, rfl, hi, hQi, hQ, hK, ho, hb⟩ := hrel
    obtain ⟨Ae, ce, rfl⟩ := own_len ho.out
    have hiw : IntKind.i64.wrap ((i : Int) + 1) = (i : Int) + 1 := w64_id (by omega)
    by_cases hlt : i < U.length
    · have hlt' : (i : Int) < U.length := by omega
      obtain ⟨g, hg, c0, c1⟩ := HUc.out i hlt
      subst hg
      have hst := hK.out
      rw [runK_step hlt] at hst
      have hpv := prevO_at hlt
      obtain ⟨⟨c, n⟩, hcn⟩ : ∃ r, U[i] = r := ⟨_, rfl⟩
      rw [hcn] at c0 c1 hst hpv
      simp only at c0 c1 hst hpv
      rw [← hpv] at hst
      have HST := Lib.hid hst
      have D0 := Lib.hid c0
      have D1 := Lib.hid c1
      clear hst hpv c0 c1
      go_upto_region 7 with fail
      go_cut [30] (fun v30 W => ∃ G : Bool, v30 = .bool G ∧ Hid (gluO (prevO U i) c = G) ∧ Hid (World.ownsRow W WA.heap.size 62 4 (.slice Ae Q.length ce) Q.length (flC Q)) ∧ Hid (Below WA.heap.size WA W))
      case first =>
        rcases Nat.eq_zero_or_pos i with hi0 | hip
        · subst hi0
          go_region
          go_wp2_with fail
          go_meet
          exact ⟨false, rfl, rfl, ho, Lib.hid (bel_drew hb.out)⟩
        · obtain ⟨k, hk⟩ : ∃ k, i - 1 = k := ⟨_, rfl⟩
          have hki : k + 1 = i := by omega
          have hkU : k < U.length := by omega
          have z1 : (0 : Int) < i := by omega
          have z2 : IntKind.i64.wrap ((i : Int) - 1) = (k : Int) := by rw [w64_id (by omega)]; omega
          have z5 : (k : Int) < U.length := by omega
          obtain ⟨g', hg', e0, e1⟩ := HUc.out k hkU
          cases hg'
          have hpv := prevO_at hkU
          rw [hki] at hpv
          obtain ⟨⟨u, m⟩, hum⟩ : ∃ r, U[k] = r := ⟨_, rfl⟩
          rw [hum] at e0 e1 hpv
          simp only at e0 e1 hpv
          have HPV := Lib.hid hpv
          have JC := Lib.hid (fun W => rjoined_calls u c (m : Nat) (n : Nat) W)
          obtain ⟨G, hG⟩ : ∃ G, glue u c = G := ⟨_, rfl⟩
          rw [hG] at JC
          have HG := Lib.hid hG
          have hbd := bel_drew hb.out
          have x0 := cell_below D0.out hbd
          have x1 := cell_below D1.out hbd
          have y0 := cell_below e0 hbd
          have y1 := cell_below e1 hbd
          have BD := Lib.hid hbd
          clear hG hpv hum e0 e1 hk hki hkU hbd
          go_region_held3 (fun w' => w'.cell? ⟨g, k * 2, none⟩ = some (.int .i32 u) ∧ w'.cell? ⟨g, k * 2 + 1, none⟩ = some (.int .i64 (m : Nat)) ∧ w'.cell? ⟨g, i * 2, none⟩ = some (.int .i32 c) ∧ w'.cell? ⟨g, i * 2 + 1, none⟩ = some (.int .i64 (n : Nat)))
            ((first | exact ⟨y0, y1, x0, x1⟩ | exact ⟨cell_below y0 gj, cell_below y1 gj, cell_below x0 gj, cell_below x1 gj⟩))
            (first
            | (go_at_call 63; (with_reducible refine (JC.out _).mono ?_); rintro e wj ⟨rfl, gj⟩))
          go_wp2_with fail
          go_meet
          exact ⟨G, rfl, (by show gluO _ _ = _; rw [HPV.out]; exact HG.out), Lib.hid (Wk.own_below (W := wr.drew) ho.out gj), Lib.hid (bel_call BD.out gj)⟩
      case rest =>
        obtain ⟨G, rfl, hG, ho2, hb2⟩ := hcut
        clear ho hb
        obtain ⟨W0, rfl⟩ : ∃ W0 : World, W0 = wc := ⟨_, rfl⟩
        cases G
        · have CC := Lib.hid (fun W => rclass_calls c W)
          have CE := Lib.hid (fun W => rcells_calls c W)
          obtain ⟨cl, hcl⟩ : ∃ cl, clsOf c = cl := ⟨_, rfl⟩
          rw [hcl] at CC
          obtain ⟨ce2, hce⟩ : ∃ x, celOf c = x := ⟨_, rfl⟩
          rw [hce] at CE
          have hstk : stK (prevO U i) c (Q.map (fun q => q.2.2.2)) = Q.map (fun q => q.2.2.2) ++ [ce2] := by
            unfold stK
            rw [if_neg (by rw [hG.out]; simp), hce]
          have HSK := Lib.hid hstk
          clear hcl hce hstk
          have x0 := cell_below D0.out hb2.out
          have x1 := cell_below D1.out hb2.out
          go_upto_region 15 with fail
          have hB := bel_drew hb2.out
          have hO : World.ownsRow W0.drew WA.heap.size 62 4 (.slice Ae Q.length ce) Q.length (flC Q) := ho2.out
          clear x0 x1 ho2 hb2
          go_region_held3 (fun w' => w'.cell? ⟨g, i * 2, none⟩ = some (.int .i32 c) ∧ w'.cell? ⟨g, i * 2 + 1, none⟩ = some (.int .i64 (n : Nat)))
            ((first | exact ⟨cell_below D0.out hB, cell_below D1.out hB⟩ | exact ⟨cell_below D0.out (bel_alloc hB _), cell_below D1.out (bel_alloc hB _)⟩))
            (first
            | (go_at_call 64; (with_reducible refine (CC.out _).mono ?_); rintro e wa ⟨rfl, ga⟩; have hB := bel_call hB ga; have hO := Wk.own_below hO ga; clear ga)
            | (go_at_call 65; (with_reducible refine (CE.out _).mono ?_); rintro e wb ⟨rfl, gb⟩; have hB := bel_call hB gb; have hO := Wk.own_below hO gb; clear gb)
            | (refine step_own (w0 := WA) (W := wb) WA.heap.size (by rfl) (.tmp 64) (.tmp 78) 58 62 i0 (.agg #[.int .i64 0, .int .i64 0, .int .i64 0, .int .i64 0]) 4 32 rfl Tryd.underlying58 HI.out.1 HI.out.2.1 HI.out.2.2.1 HI.out.2.2.2 rfl (by decide) (by decide) _ _ _ [.int .i64 a, .int .i64 (IntKind.i64.wrap (a + (n : Nat))), .int .i64 cl, .int .i64 ce2] rfl rfl rfl (by simp [Value.oneCell']) hO hB hB.size (by omega) ?_; intro v1 wz hown hB))
          have ho3 : Hid (World.ownsRow wz WA.heap.size 62 4 v1 (Q ++ [(a, IntKind.i64.wrap (a + (n : Nat)), cl, ce2)]).length (flC (Q ++ [(a, IntKind.i64.wrap (a + (n : Nat)), cl, ce2)]))) := by
            show World.ownsRow _ _ _ _ _ _ _
            rw [flC_snoc, List.length_append]
            exact hown
          have x0 := cell_below D0.out hB
          have x1 := cell_below D1.out hB
          have HB4 := Lib.hid hB
          clear hown hB hO
          go_wp2_with fail
          go_roundw
          case rel =>
            refine ⟨i + 1, _, Q ++ [(a, IntKind.i64.wrap (a + (n : Nat)), cl, ce2)], rfl, by go_num, by omega, by simp; omega, fun _ => by simp, ?_, ho3, HB4⟩
            show runK _ _ _ = _
            rw [List.map_append, List.map_cons, List.map_nil, ← HSK.out]
            exact HST.out
          case measure => simp [intOf]; omega
        · have hip : 0 < i := by
            rcases Nat.eq_zero_or_pos i with h | h
            · have := hG.out
              rw [h] at this
              cases this
            · exact h
          obtain ⟨Q', q, hq⟩ : ∃ Q' q, Q = Q' ++ [q] := ⟨Q.dropLast, Q.getLast (hQ.out hip), (List.dropLast_concat_getLast (hQ.out hip)).symm⟩
          have hNq : Q.length = Q'.length + 1 := by rw [hq]; simp
          have hQe := Lib.hid hq
          have hN := Lib.hid hNq
          obtain ⟨q0, q1, q2, q3⟩ := q
          have hstk : stK (prevO U i) c (Q.map (fun q => q.2.2.2)) = if c = 10 then Q'.map (fun q => q.2.2.2) ++ [0] else Q.map (fun q => q.2.2.2) := by
            unfold stK
            rw [if_pos hG.out, hq, List.map_append, List.map_cons, List.map_nil, List.dropLast_concat]
          have zN : IntKind.i64.wrap ((Q.length : Int) - 1) = (Q'.length : Int) := by rw [w64_id (by omega)]; omega
          have zN2 : (Q'.length : Int) < Q.length := by omega
          obtain ⟨g2, hg2, hge2, hcl, hfz, hl2, -⟩ := own_last (by rw [← hq]; exact ho2.out) hNq
          subst hg2
          have l0 := hcl 0 (by omega)
          have l1 := hcl 1 (by omega)
          have l2 := hcl 2 (by omega)
          have l3 := hcl 3 (by omega)
          simp only [qc, List.getElem?_cons_zero, List.getElem?_cons_succ, Nat.add_zero] at l0 l1 l2 l3
          have P0 : PQ WA W0.heap.size g2 Q.length ce Q q0 q1 q2 q3 (W0.alloc (.cells #[.int .i64 q0, .int .i64 q1, .int .i64 q2, .int .i64 q3] 62)) :=
            ⟨bel_alloc hb2.out _, heap_alloc_new _ _, World.ownsRow.alloc ho2.out _, hl2, hb2.out.size⟩
          clear hcl hfz hl2 hq hNq hge2
          replace hstk := Lib.hid hstk
          go_upto_region 9 with fail
          obtain ⟨W1, hW1⟩ : ∃ W1, W0.alloc (.cells #[.int .i64 q0, .int .i64 q1, .int .i64 q2, .int .i64 q3] 62) = W1 := ⟨_, rfl⟩
          obtain ⟨G, hGG⟩ : ∃ G, W0.heap.size = G := ⟨_, rfl⟩
          rw [hW1, hGG] at P0
          rw [hW1, hGG]
          clear hW1 hGG l0 l1 l2 l3 ho2 hb2
          have x0 := cell_below D0.out P0.bel
          have x1 := cell_below D1.out P0.bel
          obtain ⟨y0, y1, y2, y3, yf⟩ := P0.cs
          have yf1 := yf 1
          obtain ⟨qt, hqt⟩ : ∃ t, IntKind.i64.wrap (a + (n : Nat)) = t := ⟨_, rfl⟩
          have P1 := P0.set1 qt
          go_upto_region 10 with fail
          obtain ⟨W2, hW2⟩ : ∃ W2, W1.setCell ⟨G, 1, none⟩ (.int .i64 qt) = W2 := ⟨_, rfl⟩
          rw [hW2] at P1
          rw [hW2]
          clear hW2 P0 x0 x1 y0 y1 y2 y3 yf yf1
          have x0 := cell_below D0.out P1.bel
          obtain ⟨y0, y1, y2, y3, yf⟩ := P1.cs
          by_cases hc : c = 10
          · have hstk' := hstk.out
            rw [if_pos hc] at hstk'
            have HSK : Hid (stK (prevO U i) c (Q.map (fun q => q.2.2.2)) = (Q' ++ [((q0, qt, 1, 0) : Int × Int × Int × Int)]).map (fun q : Int × Int × Int × Int => q.2.2.2)) := by
              show _ = _
              rw [hstk', List.map_append]; rfl
            clear hstk hstk'
            have hcb : (c == 10) = true := by rw [beq_iff_eq]; exact hc
            clear hc
            have yf2 := yf 2
            have yf3 := yf 3
            have P2 := P1.set2 1
            have P3 := P2.set3 0
            have z3c := P2.cs.2.2.2.1
            have z3f := P2.cs.2.2.2.2 3
            go_upto_region 13 with fail
            obtain ⟨wq, hwq⟩ : ∃ wq, (W2.setCell ⟨G, 2, none⟩ (.int .i64 1)).setCell ⟨G, 3, none⟩ (.int .i64 0) = wq := ⟨_, rfl⟩
            rw [hwq] at P3
            rw [hwq]
            clear hwq P2 P1 x0 y0 y1 y2 y3 yf yf2 yf3 z3c z3f
            have P3c := P3.cs
            obtain ⟨r0, r1, r2, r3, rf⟩ := P3c
            obtain ⟨g3, hg3, hge3, hcl, hfz, hl3, hput⟩ := own_last (by rw [← hQe.out]; exact P3.own) hN.out
            cases hg3
            have l0 := hcl 0 (by omega)
            have l1 := hcl 1 (by omega)
            have l2 := hcl 2 (by omega)
            have l3 := hcl 3 (by omega)
            simp only [qc, List.getElem?_cons_zero, List.getElem?_cons_succ, Nat.add_zero] at l0 l1 l2 l3
            have m0 := hfz (Q'.length * 4)
            have m1 := hfz (Q'.length * 4 + 1)
            have m2 := hfz (Q'.length * 4 + 2)
            have m3 := hfz (Q'.length * 4 + 3)
            have hO5 := hput ((q0, qt, 1, 0) : Int × Int × Int × Int)
            have hB5 := bel_set (p := ⟨g2, Q'.length * 4 + 3, none⟩) (bel_set (p := ⟨g2, Q'.length * 4 + 2, none⟩) (bel_set (p := ⟨g2, Q'.length * 4 + 1, none⟩) (bel_set (p := ⟨g2, Q'.length * 4, none⟩) P3.bel hge3 (.int .i64 q0)) hge3 (.int .i64 qt)) hge3 (.int .i64 1)) hge3 (.int .i64 0)
            have HO5 := Lib.hid hO5
            have HB5 := Lib.hid hB5
            clear hcl hfz hput hO5 hB5
            go_upto_region 16 with fail
            obtain ⟨W5, hW5⟩ : ∃ W5, (((wq.setCell ⟨g2, Q'.length * 4, none⟩ (.int .i64 q0)).setCell ⟨g2, Q'.length * 4 + 1, none⟩ (.int .i64 qt)).setCell ⟨g2, Q'.length * 4 + 2, none⟩ (.int .i64 1)).setCell ⟨g2, Q'.length * 4 + 3, none⟩ (.int .i64 0) = W5 := ⟨_, rfl⟩
            have HO6 := HO5.out
            have HB6 := HB5.out
            simp only at HO6 HB6
            rw [hW5] at HO6 HB6
            rw [hW5]
            replace HO6 := Lib.hid HO6
            have y1 := cell_below D1.out HB6
            replace HB6 := Lib.hid HB6
            clear hW5 HO5 HB5 r0 r1 r2 r3 rf l0 l1 l2 l3 m0 m1 m2 m3 P3
            go_wp2_with fail
            go_roundw
            case rel =>
              refine ⟨i + 1, _, Q' ++ [((q0, qt, 1, 0) : Int × Int × Int × Int)], rfl, by go_num, by omega, by have := hN.out; simp; omega, fun _ => by simp, ?_, ?_, HB6⟩
              · show runK _ _ _ = _
                rw [← HST.out, HSK.out]
              · show World.ownsRow _ _ _ _ _ _ _
                rw [show (Q' ++ [((q0, qt, 1, 0) : Int × Int × Int × Int)]).length = Q.length by rw [hN.out]; simp]
                exact HO6.out
            case measure => simp [intOf]; omega
          · have hstk' := hstk.out
            rw [if_neg hc] at hstk'
            have HSK : Hid (stK (prevO U i) c (Q.map (fun q => q.2.2.2)) = (Q' ++ [((q0, qt, q2, q3) : Int × Int × Int × Int)]).map (fun q : Int × Int × Int × Int => q.2.2.2)) := by
              show _ = _
              rw [hstk', hQe.out, List.map_append, List.map_append]; rfl
            clear hstk hstk'
            have hcb : (c == 10) = false := by rw [beq_eq_false_iff_ne]; exact hc
            clear hc
            go_upto_region 13 with fail
            obtain ⟨wq, hwq⟩ : ∃ wq, W2 = wq := ⟨_, rfl⟩
            rw [hwq] at P1
            rw [hwq]
            have P3 := P1
            clear hwq P1 x0 y0 y1 y2 y3 yf
            have P3c := P3.cs
            obtain ⟨r0, r1, r2, r3, rf⟩ := P3c
            obtain ⟨g3, hg3, hge3, hcl, hfz, hl3, hput⟩ := own_last (by rw [← hQe.out]; exact P3.own) hN.out
            cases hg3
            have l0 := hcl 0 (by omega)
            have l1 := hcl 1 (by omega)
            have l2 := hcl 2 (by omega)
            have l3 := hcl 3 (by omega)
            simp only [qc, List.getElem?_cons_zero, List.getElem?_cons_succ, Nat.add_zero] at l0 l1 l2 l3
            have m0 := hfz (Q'.length * 4)
            have m1 := hfz (Q'.length * 4 + 1)
            have m2 := hfz (Q'.length * 4 + 2)
            have m3 := hfz (Q'.length * 4 + 3)
            have hO5 := hput ((q0, qt, q2, q3) : Int × Int × Int × Int)
            have hB5 := bel_set (p := ⟨g2, Q'.length * 4 + 3, none⟩) (bel_set (p := ⟨g2, Q'.length * 4 + 2, none⟩) (bel_set (p := ⟨g2, Q'.length * 4 + 1, none⟩) (bel_set (p := ⟨g2, Q'.length * 4, none⟩) P3.bel hge3 (.int .i64 q0)) hge3 (.int .i64 qt)) hge3 (.int .i64 q2)) hge3 (.int .i64 q3)
            have HO5 := Lib.hid hO5
            have HB5 := Lib.hid hB5
            clear hcl hfz hput hO5 hB5
            go_upto_region 16 with fail
            obtain ⟨W5, hW5⟩ : ∃ W5, (((wq.setCell ⟨g2, Q'.length * 4, none⟩ (.int .i64 q0)).setCell ⟨g2, Q'.length * 4 + 1, none⟩ (.int .i64 qt)).setCell ⟨g2, Q'.length * 4 + 2, none⟩ (.int .i64 q2)).setCell ⟨g2, Q'.length * 4 + 3, none⟩ (.int .i64 q3) = W5 := ⟨_, rfl⟩
            have HO6 := HO5.out
            have HB6 := HB5.out
            simp only at HO6 HB6
            rw [hW5] at HO6 HB6
            rw [hW5]
            replace HO6 := Lib.hid HO6
            have y1 := cell_below D1.out HB6
            replace HB6 := Lib.hid HB6
            clear hW5 HO5 HB5 r0 r1 r2 r3 rf l0 l1 l2 l3 m0 m1 m2 m3 P3
            go_wp2_with fail
            go_roundw
            case rel =>
              refine ⟨i + 1, _, Q' ++ [((q0, qt, q2, q3) : Int × Int × Int × Int)], rfl, by go_num, by omega, by have := hN.out; simp; omega, fun _ => by simp, ?_, ?_, HB6⟩
              · show runK _ _ _ = _
                rw [← HST.out, HSK.out]
              · show World.ownsRow _ _ _ _ _ _ _
                rw [show (Q' ++ [((q0, qt, q2, q3) : Int × Int × Int × Int)]).length = Q.length by rw [hN.out]; simp]
                exact HO6.out
            case measure => simp [intOf]; omega
    · have hge : (U.length : Int) ≤ i := by omega
      have hfin : Q.map (fun q => q.2.2.2) = KF := by
        have := hK.out
        rw [List.drop_eq_nil_of_le (by omega)] at this
        exact this
      have HFin := Lib.hid hfin
      have HBW := Lib.hid HBA.out.size
      clear hfin
      go_wp2_with fail
      go_ret
      exact ⟨_, Q, rfl, own_mono ho.out HBW.out, HFin.out, bel_call HBA.out hb.out⟩
end Go.Proofs.YtoodidokjchplaaDoor.Un
