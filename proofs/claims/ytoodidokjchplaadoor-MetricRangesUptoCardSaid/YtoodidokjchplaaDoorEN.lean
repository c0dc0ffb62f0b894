/- metric.Whole, MetricEnds: walked. -/
import Derived.Test.YtoodidokjchplaaDoorRW
namespace Go.Proofs.YtoodidokjchplaaDoor.Un
open Go Go.RowKit Go.Shelf
open Go.Proofs.YtoodidokjchplaaDoor.Wk (bcell bel_drew bel_drewN bel_alloc bel_set bel_call size_len blk_cell blk_below blk_lt mk_data cells_new)
set_option linter.unusedVariables false
set_option linter.unusedSimpArgs false
attribute [local go_sem high] eqA26
set_option maxRecDepth 100000 in
set_option maxHeartbeats 4000000 in
theorem whole_calls (m : Sr) (w : World) :
    Calls Tryd.prog 23 #[m.v] w fun e w' => (∃ v, e = .returned v) ∧ Below w.heap.size w w' := by
  obtain ⟨mb, mu, mc, mx, mn, mh, mt⟩ := m
  unfold Sr.v smR
  go_enter Tryd.func23, Tryd.ntmps23
  by_cases h : 16 < mb
  · go_wp2_with fail
    exact bodyPost_ret (v := .tuple #[.string ⟨#[]⟩, .bool false]) (by simp [results, Tryd.results23, go_sem]) rfl ⟨⟨_, rfl⟩, bel_alloc (Below.refl _ _) _⟩
  · go_wp2_with fail
    exact bodyPost_ret (v := .tuple #[.string mh, .bool true]) (by simp [results, Tryd.results23, go_sem]) rfl ⟨⟨_, rfl⟩, bel_alloc (Below.refl _ _) _⟩
set_option maxRecDepth 100000 in
set_option maxHeartbeats 4000000 in
theorem ends_calls (A : Option Addr) (L : List Sr) (s : ByteArray) (cap : Nat) (hs : s.size ≤ 400000000) (hn : L.length ≤ 900000000) (hL : ∀ p ∈ L, p.h.size ≤ 400000000 ∧ p.t.size ≤ 400000000) (w : World) (hT : Tb w) (hR : RdS w A L) :
    Calls Tryd.prog 8 #[.slice A L.length cap, .string s] w fun e w' => e = .returned (.bool true) ∧ Below w.heap.size w w' := by
  have HT := Lib.hid hT
  have HR := Lib.hid hR
  have HL := Lib.hid hL
  clear hT hR hL
  have K := Lib.hid (fun W hW => counts_calls W hW)
  go_enter Tryd.func8, Tryd.ntmps8
  go_wp2_with (first
    | (go_at_call 15; (with_reducible refine (K.out _ HT.out).mono ?_); rintro e w1 ⟨rfl, k1⟩)
    | (go_at_call 17; (with_reducible refine (join_calls A L _ cap rfl (by omega) HL.out _ (HT.out.below k1) (HR.out.below k1)).mono ?_); rintro e w2 ⟨rfl, g2⟩; have k2 := bel_call k1 g2; clear g2))
  have HK := Lib.hid k2
  clear k1 k2 K
  go_loopw [13] (fun v13 wr => ∃ i : Nat, v13 = .int .i64 i ∧ i ≤ L.length ∧ Hid (Below w.heap.size w wr)) (fun v13 _ => L.length - (intOf v13).toNat)
  case atStart => exact ⟨0, rfl, by omega, HK.out⟩
  case round =>
    clear HK
    obtain ⟨i, rfl, hi, hb⟩ := hrel
    by_cases hlt : i < L.length
    · obtain ⟨ad, hA, r0, r1, r2, r3, r4, r5, r6⟩ := (HR.out.below hb.out) i hlt
      have hp := HL.out L[i] (List.getElem_mem hlt)
      obtain ⟨p, hpe⟩ : ∃ p, L[i] = p := ⟨_, rfl⟩
      rw [hpe] at r0 r1 r2 r3 r4 r5 r6 hp
      clear hpe
      obtain ⟨pb, pu, pc, px, pn, ph, pt⟩ := p
      have HP := Lib.hid hp
      clear hp
      subst hA
      have hlt' : (i : Int) < L.length := by omega
      have hwi : IntKind.i64.wrap ((i : Int) + 1) = (i : Int) + 1 := w64_id (by omega)
      go_upto_region 7 with fail
      have k5 : BxR (wr.alloc (.cells #[.int .i64 pb, .int .i64 pu, .int .i64 pc, .int .i64 px, .int .i64 pn, .string ph, .string pt] 26)) wr.heap.size pb pu pc px pn ph pt := heap_alloc_new wr _
      have kb := bel_alloc hb.out (.cells #[.int .i64 pb, .int .i64 pu, .int .i64 pc, .int .i64 px, .int .i64 pn, .string ph, .string pt] 26)
      obtain ⟨G, hG⟩ : ∃ G, wr.heap.size = G := ⟨_, rfl⟩
      obtain ⟨W1, hW1⟩ : ∃ W1, wr.alloc (.cells #[.int .i64 pb, .int .i64 pu, .int .i64 pc, .int .i64 px, .int .i64 pn, .string ph, .string pt] 26) = W1 := ⟨_, rfl⟩
      rw [hW1, hG] at k5
      rw [hW1] at kb ⊢
      rw [hG]
      clear hG hW1 hb r0 r1 r2 r3 r4 r5 r6
      obtain ⟨p0, p1, p2, p3, p4, p5, p6⟩ := BxR.cs k5
      have WC := Lib.hid (fun W => whole_calls ⟨pb, pu, pc, px, pn, ph, pt⟩ W)
      unfold Sr.v smR at WC
      go_upto_region 8 with (first
        | (go_at_call 23; (with_reducible refine (WC.out _).mono ?_); rintro e w3 ⟨⟨v3, rfl⟩, g3⟩; have k6 := blk_below k5 g3; have kc := bel_call kb g3; clear g3))
      clear WC p0 p1 p2 p3 p4 p5 p6 k5 kb
      obtain ⟨r, er⟩ : ∃ r, mR s.data.toList = r := ⟨_, rfl⟩
      obtain ⟨rb, ru, rc, rx, rn, rh, rt⟩ := r
      have M1 := Lib.hid (fun W hW => measR s (by omega) er W hW)
      have hrs := mR_sizes s.data.toList
      rw [er] at hrs
      have J1 := Lib.hid (fun W Ad cp hR hT => join_calls Ad [⟨pb, pu, pc, px, pn, ph, pt⟩, ⟨rb, ru, rc, rx, rn, rh, rt⟩, ⟨pb, pu, pc, px, pn, ph, pt⟩] 3 cp rfl (by decide) (by
        intro q hq
        rcases List.mem_cons.1 hq with rfl | hq
        · exact HP.out
        · rcases List.mem_cons.1 hq with rfl | hq
          · exact hrs
          · rcases List.mem_cons.1 hq with rfl | hq
            · exact HP.out
            · cases hq) W hT hR)
      clear er hrs
      have K6 : BxR w3.drew G pb pu pc px pn ph pt := k6
      have KC := bel_drew kc
      clear k6 kc
      go_region_held3 (fun w' => w'.cell? ⟨G, 0, none⟩ = some (.int .i64 pb) ∧ w'.cell? ⟨G, 1, none⟩ = some (.int .i64 pu) ∧ w'.cell? ⟨G, 2, none⟩ = some (.int .i64 pc) ∧ w'.cell? ⟨G, 3, none⟩ = some (.int .i64 px) ∧ w'.cell? ⟨G, 4, none⟩ = some (.int .i64 pn) ∧ w'.cell? ⟨G, 5, none⟩ = some (.string ph) ∧ w'.cell? ⟨G, 6, none⟩ = some (.string pt))
        ((first | exact BxR.cs K6 | exact BxR.cs (Wk.blk_alloc K6 _)))
        (first
        | (go_at_call 19; (with_reducible refine (M1.out _ (HT.out.below KC)).mono ?_); rintro e wn ⟨rfl, gn⟩; have K6 := blk_below K6 gn; have KC := bel_call KC gn)
        | (go_at_call 17; (with_reducible refine (J1.out _ _ _ (rds3 _ _ _ (heap_alloc_new _ _)) (HT.out.below (bel_alloc KC _))).mono ?_); rintro e wm ⟨rfl, gm⟩; have K6 := blk_below (Wk.blk_alloc K6 _) gm; have KC := bel_call (bel_alloc KC _) gm))
      go_wp2_with fail
      exact ⟨⟨i + 1, by go_num, by omega, KC⟩, by simp [intOf]; omega⟩
    · go_wp2_with fail
      go_ret
      exact ⟨rfl, hb.out⟩
end Go.Proofs.YtoodidokjchplaaDoor.Un
