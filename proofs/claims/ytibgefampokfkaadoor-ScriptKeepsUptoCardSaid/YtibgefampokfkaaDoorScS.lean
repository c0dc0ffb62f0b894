/- Lists that were answered may be written over and grown: the law's walk (under way). -/
import Derived.Test.YtibgefampokfkaaDoorScR
import Derived.Maps.AppendAt
namespace Go.Proofs.YtibgefampokfkaaDoor.Sc
open Go Go.RowKit Go.Proofs.YtibgefampokfkaaDoor.Cut Go.Proofs.YtibgefampokfkaaDoor.PSc
open Go.Proofs.YtibgefampokfkaaDoorW.PrintWords (bt rdOf Kd Drawn0 Reps Aside0)
open Go.Proofs.YtibgefampokfkaaDoor.Wk (bcell bel_drew bel_drewN bel_alloc bel_set bel_call size_len mk_data blk_alloc blk_below blk_drewN blk_cell string_of_own own_slice own_below beq_true_i bne_true_i bne_false_i cells_new var_below)
set_option linter.unusedVariables false
set_option linter.unusedSimpArgs false
theorem kept_of {w w' : World} {v : Value} {A : Option Addr} {c : Nat} {L : List S37} (hv : v = .slice A L.length c) (hR : Kd.R k37 37 w' w.heap.size (fun _ => True) v L) :
    ∀ (W' : World) (g : Nat), g < w.heap.size → w'.grownBy W' (some g) → Kd.C k37 W' A L.length L := by
  intro W' g hg hgr
  subst hv
  obtain ⟨-, inner, ho, hr⟩ := hR
  have hne : (Value.slice A L.length c).ownBlock ≠ some g := fun e => by
    have := (ho.lt g e).1; omega
  have ho' := ho.kept hgr (.inr hne)
  have hR' : Kd.R k37 37 W' w.heap.size (fun _ => True) (.slice A L.length c) L := ⟨fun _ _ => trivial, inner, ho', hr.imp_ (fun x cs h => by rw [k37_openM h]; exact k37_mkM _ _ _ _)⟩
  exact (Kd.R_reads' hR').2.2
theorem gb_of {w w' : World} {row : Option Nat} (hb : Below w.heap.size w w') : w.grownBy w' row := ⟨hb.os, hb.tape, hb.output, hb.size, fun i hi _ => hb.block i hi⟩
theorem read_kp {s : ByteArray} {L : List S37} {n e0 : Int} (h : rd s.data.toList = (L, n, e0)) (w : World) (hs : s.size ≤ 1000000000) :
    Calls Tryd.prog 10 #[.string s] w fun e w' => ∃ (A : Option Addr) (c : Nat), e = .returned (.tuple #[.slice A L.length c, .int .i64 n, .int .i64 e0]) ∧ (∀ (W' : World) (g : Nat), g < w.heap.size → w'.grownBy W' (some g) → Kd.C k37 W' A L.length L) ∧ Kd.C k37 w' A L.length L ∧ L.length ≤ c ∧ Below w.heap.size w w' :=
  (script_Read.calls (2 * s.size + 1) s L n e0 w (by rw [readf' s hs _ (Nat.le_refl _), h])).mono (by
    rintro e w' ⟨v, rfl, hR, hb⟩
    obtain ⟨A, c, rfl⟩ := Kd.R_slice hR
    exact ⟨A, c, rfl, kept_of rfl hR, (Kd.R_reads' hR).2.2, (Kd.R_reads' hR).2.1, hb⟩)
theorem rread_kp {s : ByteArray} {L : List S37} {n e0 : Int} (h : rd s.data.toList = (L, n, e0)) (w : World) (hs : s.size ≤ 1000000000) :
    Calls Tryd.prog 11 #[.string s] w fun e w' => ∃ (A : Option Addr) (c : Nat), e = .returned (.tuple #[.slice A L.length c, .int .i64 n, .int .i64 e0]) ∧ (∀ (W' : World) (g : Nat), g < w.heap.size → w'.grownBy W' (some g) → Kd.C k37 W' A L.length L) ∧ Kd.C k37 w' A L.length L ∧ L.length ≤ c ∧ Below w.heap.size w w' :=
  (bodkinref24_Read.calls (2 * s.size + 1) s L n e0 w (by rw [rreadf' s hs _ (Nat.le_refl _), h])).mono (by
    rintro e w' ⟨v, rfl, hR, hb⟩
    obtain ⟨A, c, rfl⟩ := Kd.R_slice hR
    exact ⟨A, c, rfl, kept_of rfl hR, (Kd.R_reads' hR).2.2, (Kd.R_reads' hR).2.1, hb⟩)
/-- read, told with the row's own block. -/
theorem read_blk {s : ByteArray} {L : List S37} {n e0 : Int} (h : rd s.data.toList = (L, n, e0)) (w : World) (hs : s.size ≤ 1000000000) :
    Calls Tryd.prog 10 #[.string s] w fun e w' => ∃ v : Value, e = .returned (.tuple #[v, .int .i64 n, .int .i64 e0]) ∧ Below w.heap.size w w' ∧
      ((v = .slice none 0 0 ∧ L = []) ∨ ∃ (g cap : Nat) (cur : Array Value), v = .slice (some ⟨g, 0, none⟩) L.length cap ∧ w.heap.size ≤ g ∧ g < w'.heap.size ∧ w'.heap[g]? = some (.cells cur 37 (0, 0)) ∧ L.length ≤ cap ∧ cur.size = cap * 4) :=
  (script_Read.calls (2 * s.size + 1) s L n e0 w (by rw [readf' s hs _ (Nat.le_refl _), h])).mono (by
    rintro e w' ⟨v, rfl, hR, hb⟩
    refine ⟨v, rfl, hb, ?_⟩
    obtain ⟨-, inner, ho, -⟩ := hR
    rcases ho.2 with ⟨h1, h2⟩ | ⟨g, cap, cur, h1, h2, h3, h4, -, h6, -⟩
    · exact .inl ⟨h1, List.eq_nil_of_length_eq_zero h2⟩
    · have hg : g < w'.heap.size := by
        rcases Nat.lt_or_ge g w'.heap.size with h | h
        · exact h
        · rw [Array.getElem?_eq_none h] at h3; cases h3
      exact .inr ⟨g, cap, cur, h1, h2, hg, h3, h4, h6⟩)
theorem gb_set {w0 W : World} {g k : Nat} {v : Value} (h : w0.grownBy W (some g)) : w0.grownBy (W.setCell ⟨g, k, none⟩ v) (some g) :=
  ⟨h.os, h.tape, h.output, by simpa [World.setCell] using h.size, fun i hi hne => by
    rw [heap_setCell_other W ⟨g, k, none⟩ i v (fun e => hne (by rw [e]))]
    exact h.block i hi hne⟩
theorem set_blk {W : World} {g : Nat} {cur : Array Value} (h : W.heap[g]? = some (.cells cur 37 (0, 0))) (k : Nat) (v : Value) : (W.setCell ⟨g, k, none⟩ v).heap[g]? = some (.cells (cur.setIfInBounds k v) 37 (0, 0)) := heap_setCell_same W g k cur 37 v h
theorem put4 {w0 W : World} {g n cap : Nat} {cur : Array Value} (hg : w0.grownBy W (some g)) (h : W.heap[g]? = some (.cells cur 37 (0, 0))) (hs : cur.size = cap * 4) (hn : n < cap) (a b c d : Value) (k1 k2 k3 : Nat) (e1 : k1 = n * 4 + 1) (e2 : k2 = n * 4 + 2) (e3 : k3 = n * 4 + 3) :
    w0.grownBy ((((W.setCell ⟨g, n * 4, none⟩ a).setCell ⟨g, k1, none⟩ b).setCell ⟨g, k2, none⟩ c).setCell ⟨g, k3, none⟩ d) (some g) ∧
    ∃ cur' : Array Value, ((((W.setCell ⟨g, n * 4, none⟩ a).setCell ⟨g, k1, none⟩ b).setCell ⟨g, k2, none⟩ c).setCell ⟨g, k3, none⟩ d).heap[g]? = some (.cells cur' 37 (0, 0)) ∧ cur'.size = cap * 4 ∧
      (n = 0 → cur'[0]? = some a) ∧ (0 < n → cur'[0]? = cur[0]?) := by
  subst e1 e2 e3
  refine ⟨gb_set (gb_set (gb_set (gb_set hg))), _, set_blk (set_blk (set_blk (set_blk h _ _) _ _) _ _) _ _, by simp [hs], fun h0 => ?_, fun h0 => ?_⟩
  · subst h0
    rw [Array.getElem?_setIfInBounds_ne (by omega), Array.getElem?_setIfInBounds_ne (by omega), Array.getElem?_setIfInBounds_ne (by omega)]
    simp [Array.getElem?_setIfInBounds, hs]; omega
  · rw [Array.getElem?_setIfInBounds_ne (by omega), Array.getElem?_setIfInBounds_ne (by omega), Array.getElem?_setIfInBounds_ne (by omega), Array.getElem?_setIfInBounds_ne (by omega)]
theorem gb_set2 {w0 W : World} {g gb k : Nat} {v : Value} (hor : gb = g ∨ w0.heap.size ≤ gb) (h : w0.grownBy W (some g)) : w0.grownBy (W.setCell ⟨gb, k, none⟩ v) (some g) :=
  ⟨h.os, h.tape, h.output, by simpa [World.setCell] using h.size, fun i hi hne => by
    rw [heap_setCell_other W ⟨gb, k, none⟩ i v (fun e => by
      rcases hor with h1 | h1
      · exact hne (by rw [e, ← h1])
      · have : i = gb := e
        omega)]
    exact h.block i hi hne⟩
theorem cell_set2 {W : World} {g gb k c : Nat} {cur : Array Value} {v : Value} (h : W.heap[gb]? = some (.cells cur 37 (0, 0))) (hk : 0 < k ∨ gb ≠ g) : (W.setCell ⟨gb, k, none⟩ v).cell? ⟨g, 0, none⟩ = W.cell? ⟨g, 0, none⟩ := by
  by_cases e : gb = g
  · subst e
    rw [blk_cell (set_blk h _ _), blk_cell h, Array.getElem?_setIfInBounds_ne (by rcases hk with h | h; omega; exact absurd rfl h)]
  · exact World.cell?_of_block (heap_setCell_other W ⟨gb, k, none⟩ g v (fun h => e h.symm))
theorem put42 {w0 W : World} {g gb n c : Nat} {cur : Array Value} (hor : gb = g ∨ w0.heap.size ≤ gb) (hg : w0.grownBy W (some g)) (h : W.heap[gb]? = some (.cells cur 37 (0, 0))) (hs : cur.size = c * 4) (a b d e : Value) :
    w0.grownBy (W.setCells gb (n * 4) [a, b, d, e]) (some g) ∧ (∃ cur' : Array Value, (W.setCells gb (n * 4) [a, b, d, e]).heap[gb]? = some (.cells cur' 37 (0, 0)) ∧ cur'.size = c * 4) ∧
      (0 < n ∨ gb ≠ g → (W.setCells gb (n * 4) [a, b, d, e]).cell? ⟨g, 0, none⟩ = W.cell? ⟨g, 0, none⟩) := by
  simp only [World.setCells]
  have h1 := set_blk h (n * 4) a
  have h2 := set_blk h1 (n * 4 + 1) b
  have h3 := set_blk h2 (n * 4 + 1 + 1) d
  have h4 := set_blk h3 (n * 4 + 1 + 1 + 1) e
  refine ⟨gb_set2 hor (gb_set2 hor (gb_set2 hor (gb_set2 hor hg))), ⟨_, h4, by simp [hs]⟩, fun hn => ?_⟩
  have hk : 0 < n * 4 ∨ gb ≠ g := by rcases hn with h | h; exact .inl (by omega); exact .inr h
  rw [cell_set2 (c := 0) h3 (.inl (by omega)), cell_set2 (c := 0) h2 (.inl (by omega)), cell_set2 (c := 0) h1 (.inl (by omega)), cell_set2 (c := 0) h hk]
theorem gb_none {a b : World} {row : Option Nat} (h : a.grownBy b none) : a.grownBy b row := ⟨h.os, h.tape, h.output, h.size, fun k hk _ => h.block k hk (by simp)⟩
set_option maxHeartbeats 8000000 in
set_option maxRecDepth 100000 in
theorem keeps_calls (a b : ByteArray) (w : World) (ha : a.size ≤ 1048576) (hb : b.size ≤ 1048576) :
    Calls Tryd.prog 8 #[.string a, .string b] w fun e w' => e = .returned (.bool true) ∧ Below w.heap.size w w' := by
  have hu := Tryd.underlying37
  obtain ⟨La, na, ea, hA⟩ : ∃ L n e, rd a.data.toList = (L, n, e) := ⟨_, _, _, rfl⟩
  obtain ⟨Lb, nb, eb, hB⟩ : ∃ L n e, rd b.data.toList = (L, n, e) := ⟨_, _, _, rfl⟩
  have hlA := rd_len' hA
  have hlB := rd_len' hB
  rw [size_len] at hlA hlB
  have HA := Lib.hid hA
  have HB := Lib.hid hB
  clear hA hB
  have hfirst : True := trivial
  go_enter Tryd.func8, Tryd.ntmps8
  go_wp2_with (first
    | (go_at_call 9; refine (fixed_calls _).mono ?_; rintro e w1 ⟨rfl, hB⟩)
    | (go_at_call 10; clear hfirst; (with_reducible refine (read_blk HA.out _ (by omega)).mono ?_); rintro e w2 ⟨v, rfl, hb1, hv⟩; have zw1 := Lib.hid hB.size; replace hB := Lib.hid (bel_call hB hb1); clear hb1; have hw2 := Lib.hid (Nat.le_refl w2.heap.size); replace hv := Lib.hid hv)
    | (go_at_call 10; (with_reducible refine (read_kp HA.out _ (by omega)).mono ?_); rintro e w3 ⟨A2, c2, rfl, hC2, hD2, hc2, hb2⟩; replace hC2 := Lib.hid hC2; replace hD2 := Lib.hid hD2; replace hb2 := Lib.hid hb2)
    | (go_at_call 10; (with_reducible refine (read_kp HB.out _ (by omega)).mono ?_); rintro e w4 ⟨A3, c3, rfl, hC3, hD3, hc3, hb3⟩; replace hC3 := Lib.hid hC3; replace hD3 := Lib.hid hD3; replace hb3 := Lib.hid hb3)
    | (go_at_call 11; (with_reducible refine (rread_kp HA.out _ (by omega)).mono ?_); rintro e w5 ⟨A4, c4, rfl, hC4, hD4, hc4, hb4⟩; replace hC4 := Lib.hid hC4; replace hD4 := Lib.hid hD4; replace hb4 := Lib.hid hb4)
    | (go_at_call 11; (with_reducible refine (rread_kp HB.out _ (by omega)).mono ?_); rintro e w6 ⟨A5, c5, rfl, hC5, hD5, hc5, hb5⟩; replace hC5 := Lib.hid hC5; replace hD5 := Lib.hid hD5; replace hb5 := Lib.hid hb5))
  have z3 := hb2.out.size
  have z4 := hb3.out.size
  have z5 := hb4.out.size
  have z6 := hb5.out.size
  have hB6 : Hid (Below w.heap.size w w6) := bel_call (bel_call (bel_call (bel_call hB.out hb2.out) hb3.out) hb4.out) hb5.out
  have b36 : Hid (Below w3.heap.size w3 w6) := bel_call (bel_call hb3.out hb4.out) hb5.out
  have b46 : Hid (Below w4.heap.size w4 w6) := bel_call hb4.out hb5.out
  have zw := hB.out.size
  rcases hv.out with ⟨rfl, hL0⟩ | ⟨g, cap, cur, rfl, hg0, hg1, hgh, hcap, hcs⟩
  · have q0 : ((La.length : Int) == 0) = true := by rw [hL0]; rfl
    have hle : (La.length : Int) ≤ 0 := by rw [hL0]; decide
    have hsl : Value.slice none 0 0 = Value.slice none La.length 0 := by rw [hL0]; rfl
    rw [hsl]
    clear hsl
    obtain ⟨i1, hi1, hzz⟩ := Option.map_eq_some_iff.1 info37
    simp only [Prod.mk.injEq] at hzz
    obtain ⟨hz0, hz1, hz2⟩ := hzz
    clear hv hL0
    go_loop [20] (fun v20 => v20 = .int .i64 0) (fun _ => 0)
    case atStart => rfl
    case round =>
      subst hrel
      go_wp2
      go_loopw [21, 22] (fun v21 v22 wr => ∃ x : Nat, v22 = .int .i64 x ∧ x ≤ 16 ∧ Hid (Below w6.heap.size w6 wr) ∧ Hid (∃ xs, wr.ownsRow w6.heap.size 37 4 v21 x xs)) (fun _ v22 _ => 16 - (intOf v22).toNat)
      case atStart => exact ⟨0, rfl, by omega, Below.refl _ _, [], by rw [show (Value.slice none La.length 0 : Value) = .slice none 0 0 from by rw [show La.length = 0 from by omega]]; exact World.ownsRow_nil _ _ _ _⟩
      case round =>
        obtain ⟨x, rfl, hx, hbr, xs, hown⟩ := hrel
        have zr := hbr.out.size
        by_cases hlt : x < 16
        · obtain ⟨wo, rfl⟩ : ∃ wo : World, wo = wr := ⟨_, rfl⟩
          go_wp2_with (at_builtin; go_loud (refine wpList_append_own _ rfl _ _ 24 rfl w6.heap.size 37 i1 (.agg #[(.int .i64 0), (.string ⟨#[]⟩), (.int .i64 0), (.int .i64 0)]) 4 40 Tryd.underlying24 hi1 hz0 hz1 hz2 rfl (by decide) _ _ _ rfl (hown.alloc _) ⟨wo.heap.size, 0, none⟩ 1 1 [.int .i64 (-2), .string ⟨#[]⟩, .int .i64 0, .int .i64 0] rfl rfl (cells_new wo _ 37) (by simp [Value.oneCell']) ?c3 ?c4 ?c5 ?_))
          case c3 => unfold maxLen; omega
          case c4 => omega
          case c5 => first | omega | (simp; omega)
          intro v' w2' hown' hgr _
          have hB2 : Below w6.heap.size w6 w2' := (bel_alloc hbr.out _).grown hgr (by simp; omega) (fun k hk => (hown.lt k hk).1)
          go_wp2
          go_roundw
          case rel => exact ⟨x + 1, by go_num, by omega, hB2, _, hown'⟩
          case measure => simp [intOf]; omega
        · go_wp2_with (first
              | (go_at_call 10; (with_reducible refine (read_as HA.out _ (by omega)).mono ?_); rintro e w7 ⟨A6, c6, rfl, hC6, hc6, hb7⟩; replace hC6 := Lib.hid hC6; have q7 : Hid (Below w6.heap.size w6 w7) := bel_call hbr.out hb7; have hb8 := Lib.hid hb7)
              | (go_at_call 12; (with_reducible refine (same_as La (by omega) A2 A4 _ _ _ (Kd.C_below (Kd.C_below hD2.out b36.out) q7.out) hc2 (Kd.C_below (Kd.C_below hD4.out hb5.out) q7.out) hc4).mono ?_); rintro e w8 ⟨rfl, nd1, rfl⟩)
              | (go_at_call 12; (with_reducible refine (same_as Lb (by omega) A3 A5 _ _ _ (Kd.C_drewN (Kd.C_below (Kd.C_below hD3.out b46.out) q7.out) nd1) hc3 (Kd.C_drewN (Kd.C_below hD5.out q7.out) nd1) hc5).mono ?_); rintro e w9 ⟨rfl, nd2, rfl⟩)
              | (go_at_call 12; (with_reducible refine (same_as La (by omega) A6 A4 _ _ _ (Kd.C_drewN hC6.out (nd1 + nd2)) hc6 (Kd.C_drewN (Kd.C_below (Kd.C_below hD4.out hb5.out) q7.out) (nd1 + nd2)) hc4).mono ?_); rintro e w10 ⟨rfl, nd3, rfl⟩))
          go_ret
          exact ⟨rfl, bel_drewN (bel_call hB6.out q7.out) _⟩
  · have hgh6 : w6.heap[g]? = some (.cells cur 37 (0, 0)) := by
      rw [(bel_call hb2.out b36.out).block g (by omega)]; exact hgh
    have HG : Hid (∃ cur : Array Value, w6.heap[g]? = some (.cells cur 37 (0, 0)) ∧ cur.size = cap * 4 ∧ (0 < 0 → cur[0]? = some (.int .i64 (-1)))) := ⟨cur, hgh6, hcs, fun h => absurd h (by omega)⟩
    clear hv hgh hgh6
    go_loopw [20] (fun v20 wr => ∃ i : Nat, v20 = .int .i64 i ∧ i ≤ La.length ∧ Hid (w6.grownBy wr (some g)) ∧ Hid (∃ cur : Array Value, wr.heap[g]? = some (.cells cur 37 (0, 0)) ∧ cur.size = cap * 4 ∧ (0 < i → cur[0]? = some (.int .i64 (-1))))) (fun v20 _ => La.length - (intOf v20).toNat)
    case atStart => exact ⟨0, rfl, Nat.zero_le _, World.grownBy.refl _ _, HG.out⟩
    case round =>
      clear HG
      obtain ⟨i, rfl, hi, hgr, cur2, hc2g, hc2s, hc20⟩ := hrel
      have zr := hgr.out.size
      by_cases hlt : i < La.length
      · have hat : ∀ j : Nat, j < 4 → ∃ u, wr.cell? ⟨g, i * 4 + j, none⟩ = some u := by
          intro j hj
          have hh : i * 4 + j < cur2.size := by rw [hc2s]; omega
          refine ⟨cur2[i * 4 + j], ?_⟩
          rw [blk_cell hc2g, Array.getElem?_eq_getElem hh]
        have hfz : ∀ j : Nat, wr.frozen? ⟨g, j, none⟩ = false := fun j => by simp [World.frozen?, hc2g]
        obtain ⟨u0, hu0⟩ := hat 0 (by omega)
        obtain ⟨u1, hu1⟩ := hat 1 (by omega)
        obtain ⟨u2, hu2⟩ := hat 2 (by omega)
        obtain ⟨u3, hu3⟩ := hat 3 (by omega)
        rw [Nat.add_zero] at hu0
        have hf0 := hfz (i * 4)
        have hf1 := hfz (i * 4 + 1)
        have hf2 := hfz (i * 4 + 2)
        have hf3 := hfz (i * 4 + 3)
        replace hat := Lib.hid hat
        replace hc2g := Lib.hid hc2g
        clear hfz hat
        have hp := put4 hgr.out hc2g.out hc2s (show i < cap by omega) (.int .i64 (-1)) (.string ⟨#[]⟩) (.int .i64 0) (.int .i64 0) _ _ _ rfl rfl rfl
        obtain ⟨hp1, cur3, hp2, hp3, hp4, hp5⟩ := hp
        have hz := Lib.hid hc20
        clear hc20
        replace hp4 := Lib.hid hp4
        replace hp5 := Lib.hid hp5
        replace hp1 := Lib.hid hp1
        replace hp2 := Lib.hid hp2
        go_wp2
        refine ⟨⟨i + 1, by go_num, by omega, hp1, cur3, hp2.out, hp3, fun _ => ?_⟩, by simp [intOf]; omega⟩
        rcases Nat.eq_zero_or_pos i with h | h
        · exact hp4.out h
        · rw [hp5.out h]; exact hz.out h
      · have hz : Hid (0 < La.length → wr.cell? ⟨g, 0, none⟩ = some (.int .i64 (-1))) := by
          show _ → _
          intro h
          rw [blk_cell hc2g]
          exact hc20 (by omega)
        obtain ⟨i1, hi1, hzz⟩ := Option.map_eq_some_iff.1 info37
        simp only [Prod.mk.injEq] at hzz
        obtain ⟨hz0, hz1, hz2⟩ := hzz
        have HG : Hid (wr.heap[g]? = some (.cells cur2 37 (0, 0)) ∧ cur2.size = cap * 4) := ⟨hc2g, hc2s⟩
        clear hc2g hc2s hc20
        go_wp2
        go_loopw [21, 22] (fun v21 v22 ws => ∃ (x gb n c : Nat) (cu : Array Value), v22 = .int .i64 x ∧ x ≤ 16 ∧ v21 = .slice (some ⟨gb, 0, none⟩) n c ∧ Hid (La.length ≤ n ∧ n ≤ La.length + x ∧ n ≤ c) ∧ Hid (w6.grownBy ws (some g)) ∧ Hid (ws.heap[gb]? = some (.cells cu 37 (0, 0)) ∧ cu.size = c * 4) ∧ Hid (gb = g ∨ w6.heap.size ≤ gb) ∧ Hid (0 < La.length → ws.cell? ⟨g, 0, none⟩ = some (.int .i64 (-1)))) (fun _ v22 _ => 16 - (intOf v22).toNat)
        case atStart => exact ⟨0, g, La.length, cap, cur2, rfl, by omega, rfl, ⟨Nat.le_refl _, by omega, hcap⟩, hgr, HG, Or.inl rfl, hz⟩
        case round =>
          clear hz HG hgr
          obtain ⟨x, gb, n, c, cu, rfl, hx, rfl, hn, hgs, hbk, hor, hz⟩ := hrel
          obtain ⟨hn1, hn2, hn3⟩ := hn.out
          have zs := hgs.out.size
          by_cases hlt : x < 16
          · obtain ⟨wo, rfl⟩ : ∃ wo : World, wo = wr := ⟨_, rfl⟩
            have hgb : gb < wo.heap.size := by
              rcases Nat.lt_or_ge gb wo.heap.size with h | h
              · exact h
              · have := hbk.out.1; rw [Array.getElem?_eq_none h] at this; cases this
            go_wp2_with (at_builtin; go_loud (refine wpList_append_arg _ rfl _ _ 24 rfl 37 i1 (.agg #[(.int .i64 0), (.string ⟨#[]⟩), (.int .i64 0), (.int .i64 0)]) 4 40 Tryd.underlying24 hi1 hz0 hz1 hz2 rfl (by decide) gb 0 n c (cu.toList.take (n * 4)) rfl ?lo ?olds ⟨wo.heap.size, 0, none⟩ 1 1 [.int .i64 (-2), .string ⟨#[]⟩, .int .i64 0, .int .i64 0] rfl rfl (cells_new wo _ 37) (by simp [Value.oneCell']) ?sp ?b1 ?b2 ?room ?grow))
            case lo => have := hbk.out.2; simp; omega
            case olds =>
              intro j u hj
              obtain ⟨hl, he⟩ := List.getElem?_eq_some_iff.mp hj
              have h2 := hbk.out.2
              simp at hl he
              have hc : wo.cell? ⟨gb, j, none⟩ = some u := by rw [blk_cell hbk.out.1, Array.getElem?_eq_getElem (by omega), he]
              first | exact cell_of_alloc hc | (rw [Nat.zero_add]; exact cell_of_alloc hc)
            case sp =>
              intro h j hj
              have h2 := hbk.out.2
              simp at hj
              have hb' := blk_alloc hbk.out.1 (.cells #[.int .i64 (-2), .string ⟨#[]⟩, .int .i64 0, .int .i64 0] 37)
              refine ⟨?_, by simp [World.frozen?, hb']⟩
              rw [blk_cell hb', Array.getElem?_eq_getElem (by omega)]
              rfl
            case b1 => unfold maxLen; omega
            case b2 => omega
            case room =>
              intro hrm
              have hp := put42 (n := n) hor.out (hgs.out.trans (World.grownBy_alloc wo (.cells #[.int .i64 (-2), .string ⟨#[]⟩, .int .i64 0, .int .i64 0] 37) (some g))) (blk_alloc hbk.out.1 _) hbk.out.2 (.int .i64 (-2)) (.string ⟨#[]⟩) (.int .i64 0) (.int .i64 0)
              obtain ⟨hp1, ⟨cu2, hp2, hp3⟩, hp4⟩ := hp
              generalize (wo.alloc (.cells #[.int .i64 (-2), .string ⟨#[]⟩, .int .i64 0, .int .i64 0] 37)).setCells gb (n * 4) [.int .i64 (-2), .string ⟨#[]⟩, .int .i64 0, .int .i64 0] = wn at hp1 hp2 hp4 ⊢
              replace hp1 := Lib.hid hp1
              replace hp2 := Lib.hid hp2
              replace hp4 := Lib.hid hp4
              go_wp2
              go_roundw
              case rel => exact ⟨x + 1, gb, n + 1, c, cu2, by go_num, by omega, rfl, ⟨by omega, by omega, by omega⟩, hp1, ⟨hp2.out, hp3⟩, hor, fun h => by rw [hp4.out (.inl (by omega))]; exact cell_of_alloc (hz.out h)⟩
              case measure => simp [intOf]; omega
            case grow =>
              intro hgw v' w2 hown' hgr'
              rcases hown'.2 with ⟨-, h0⟩ | ⟨g2, k2, cu2, rfl, h5, h6, h7, -, h8, -⟩
              · omega
              · have q1 : Hid (w6.grownBy w2 (some g)) := (hgs.out.trans (World.grownBy_alloc wo _ (some g))).trans (gb_none hgr')
                have q2 : Hid (0 < La.length → w2.cell? ⟨g, 0, none⟩ = some (.int .i64 (-1))) := fun h => hgr'.cell (cell_of_alloc (hz.out h)) (by simp)
                have q3 : w6.heap.size ≤ g2 := by first | omega | (simp at h5; omega)
                replace h6 := Lib.hid h6
                clear hown' hgr'
                go_wp2
                go_roundw
                case rel => exact ⟨x + 1, g2, n + 1, k2, cu2, by go_num, by omega, rfl, ⟨by omega, by omega, h7⟩, q1, ⟨h6.out, h8⟩, Or.inr q3, q2⟩
                case measure => simp [intOf]; omega
          · have hfin : Hid (Below w.heap.size w wr) := hB6.out.grown hgs.out hB6.out.size (fun k hk => by cases hk; have := zw1.out; omega)
            rcases Nat.eq_zero_or_pos La.length with h0 | h0
            · have q0 : ((La.length : Int) == 0) = true := by rw [h0]; rfl
              clear h0
              go_wp2_with (first
              | (go_at_call 10; (with_reducible refine (read_as HA.out _ (by omega)).mono ?_); rintro e w7 ⟨A6, c6, rfl, hC6, hc6, hb7⟩; replace hC6 := Lib.hid hC6; have q7 : Hid (w6.grownBy w7 (some g)) := hgs.out.trans (gb_of hb7); have hb8 := Lib.hid hb7; try have hz7 := (hb7.cell (World.block_lt_of_cell? _ _ hz0')).trans hz0')
              | (go_at_call 12; (with_reducible refine (same_as La (by omega) A2 A4 _ _ _ (hC2.out _ g hg1 ((gb_of b36.out).trans q7.out)) hc2 (hC4.out _ g (by omega) ((gb_of hb5.out).trans q7.out)) hc4).mono ?_); rintro e w8 ⟨rfl, nd1, rfl⟩)
              | (go_at_call 12; (with_reducible refine (same_as Lb (by omega) A3 A5 _ _ _ (Kd.C_drewN (hC3.out _ g (by omega) ((gb_of b46.out).trans q7.out)) nd1) hc3 (Kd.C_drewN (hC5.out _ g (by omega) q7.out) nd1) hc5).mono ?_); rintro e w9 ⟨rfl, nd2, rfl⟩)
              | (go_at_call 12; (with_reducible refine (same_as La (by omega) A6 A4 _ _ _ (Kd.C_drewN hC6.out (nd1 + nd2)) hc6 (Kd.C_drewN (hC4.out _ g (by omega) ((gb_of hb5.out).trans q7.out)) (nd1 + nd2)) hc4).mono ?_); rintro e w10 ⟨rfl, nd3, rfl⟩))
              go_ret
              exact ⟨rfl, bel_drewN (bel_call hfin.out hb8.out) _⟩
            · have q0 : ((La.length : Int) == 0) = false := beq_false_i (by omega)
              have hz0' := hz.out h0
              have h0i : (0 : Int) < La.length := by omega
              go_wp2_with (first
              | (go_at_call 10; (with_reducible refine (read_as HA.out _ (by omega)).mono ?_); rintro e w7 ⟨A6, c6, rfl, hC6, hc6, hb7⟩; replace hC6 := Lib.hid hC6; have q7 : Hid (w6.grownBy w7 (some g)) := hgs.out.trans (gb_of hb7); have hb8 := Lib.hid hb7; try have hz7 := (hb7.cell (World.block_lt_of_cell? _ _ hz0')).trans hz0')
              | (go_at_call 12; (with_reducible refine (same_as La (by omega) A2 A4 _ _ _ (hC2.out _ g hg1 ((gb_of b36.out).trans q7.out)) hc2 (hC4.out _ g (by omega) ((gb_of hb5.out).trans q7.out)) hc4).mono ?_); rintro e w8 ⟨rfl, nd1, rfl⟩)
              | (go_at_call 12; (with_reducible refine (same_as Lb (by omega) A3 A5 _ _ _ (Kd.C_drewN (hC3.out _ g (by omega) ((gb_of b46.out).trans q7.out)) nd1) hc3 (Kd.C_drewN (hC5.out _ g (by omega) q7.out) nd1) hc5).mono ?_); rintro e w9 ⟨rfl, nd2, rfl⟩)
              | (go_at_call 12; (with_reducible refine (same_as La (by omega) A6 A4 _ _ _ (Kd.C_drewN hC6.out (nd1 + nd2)) hc6 (Kd.C_drewN (hC4.out _ g (by omega) ((gb_of hb5.out).trans q7.out)) (nd1 + nd2)) hc4).mono ?_); rintro e w10 ⟨rfl, nd3, rfl⟩))
              go_ret
              exact ⟨rfl, bel_drewN (bel_call hfin.out hb8.out) _⟩
end Go.Proofs.YtibgefampokfkaaDoor.Sc
