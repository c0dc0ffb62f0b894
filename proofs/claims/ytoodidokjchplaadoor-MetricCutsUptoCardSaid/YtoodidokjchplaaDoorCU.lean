/- MetricCuts: walked. -/
import Derived.Test.YtoodidokjchplaaDoorRW
namespace Go.Proofs.YtoodidokjchplaaDoor.Un
open Go Go.RowKit Go.Shelf
open Go.Proofs.YtoodidokjchplaaDoor.Wk (bcell bel_drew bel_drewN bel_alloc bel_set bel_call size_len blk_cell blk_below blk_lt mk_data cells_new)
set_option linter.unusedVariables false
set_option linter.unusedSimpArgs false
attribute [local go_sem high] eqA26
/-- A row of uint16s. -/
def RdC (W : World) (A : Option Addr) (C : List UInt16) : Prop := ∀ i (hi : i < C.length), ∃ ad : Addr, A = some ad ∧ W.cell? (ad.add i) = some (.int .u16 C[i].toNat)
theorem RdC.below {W W' : World} {A : Option Addr} {C : List UInt16} (h : RdC W A C) (hb : Below W.heap.size W W') : RdC W' A C := by
  intro i hi
  obtain ⟨ad, e, c⟩ := h i hi
  exact ⟨ad, e, cell_below c hb⟩
theorem info26 : (Tryd.prog.info? 26).map (fun i => (i.zero, i.size, i.bytes)) = some (some (.agg #[.int .i64 0, .int .i64 0, .int .i64 0, .int .i64 0, .int .i64 0, .string ⟨#[]⟩, .string ⟨#[]⟩]), 7, 72) := by kernel_rfl
theorem list_step {T : List (List UInt8)} {l : List UInt8} {p q : Nat} (h : T.flatten = l.take p) : (T ++ [(l.drop p).take q]).flatten = l.take (p + q) := by
  rw [List.flatten_append, h, List.take_add]; simp
set_option maxRecDepth 100000 in
set_option maxHeartbeats 4000000 in
theorem cuts_calls (s : ByteArray) (A : Option Addr) (C : List UInt16) (cap : Nat) (hs : s.size ≤ 1000000000) (hC : C.length ≤ 900000000) (w : World) (hT : Tb w) (hR : RdC w A C) :
    Calls Tryd.prog 10 #[.string s, .slice A C.length cap] w fun e w' => e = .returned (.bool true) ∧ Below w.heap.size w w' := by
  have HT := Lib.hid hT
  have HR := Lib.hid hR
  clear hT hR
  have K := Lib.hid (fun W hW => counts_calls W hW)
  obtain ⟨i0, hi0, hz0, hz1, hz2⟩ := info_parts info26
  have HI := Lib.hid (show Tryd.prog.info? 26 = some i0 ∧ i0.zero = some (.agg #[.int .i64 0, .int .i64 0, .int .i64 0, .int .i64 0, .int .i64 0, .string ⟨#[]⟩, .string ⟨#[]⟩]) ∧ i0.size = 7 ∧ i0.bytes = 72 from ⟨hi0, hz0, hz1, hz2⟩)
  clear hi0 hz0 hz1 hz2
  obtain ⟨l, hl⟩ : ∃ l, s.data.toList = l := ⟨_, rfl⟩
  have hlen : l.length = s.size := by rw [← hl]; exact size_len s
  replace hl := Lib.hid hl
  replace hlen := Lib.hid hlen
  go_enter Tryd.func10, Tryd.ntmps10
  go_wp2_with (first
    | (go_at_call 15; (with_reducible refine (K.out _ HT.out).mono ?_); rintro e w1 ⟨rfl, k1⟩))
  have HK := Lib.hid k1
  clear k1 K
  go_loopw [5, 6, 14] (fun v5 v6 v14 wr => ∃ (i p : Nat) (T : List (List UInt8)) (L : List Sr), v14 = .int .i64 i ∧ i ≤ C.length ∧ v6 = .int .i64 p ∧ p ≤ s.size ∧ L.length = i ∧ Hid (T.flatten = l.take p ∧ T.length = i ∧ T.map mR = L) ∧ Hid (World.ownsRow wr w.heap.size 26 7 v5 L.length (flatR L)) ∧ Hid (Below w.heap.size w wr)) (fun v5 v6 v14 _ => C.length - (intOf v14).toNat)
  case atStart => exact ⟨0, 0, [], [], rfl, by omega, rfl, by omega, rfl, ⟨rfl, rfl, rfl⟩, World.ownsRow_nil _ _ _ _, HK.out⟩
  case round =>
    clear HK
    obtain ⟨i, p, T, L, rfl, hi, rfl, hp, hLi, ht, ho, hb⟩ := hrel
    subst hLi
    by_cases hlt : L.length < C.length
    · obtain ⟨ad, hA, hc⟩ := (HR.out.below hb.out) L.length hlt
      obtain ⟨x, hx⟩ : ∃ x, C[L.length].toNat = x := ⟨_, rfl⟩
      have hx2 : x < 65536 := by rw [← hx]; exact C[L.length].toNat_lt
      rw [hx] at hc
      clear hx
      subst hA
      have hlt' : (L.length : Int) < C.length := by omega
      obtain ⟨q, hq⟩ : ∃ q, x % (s.size - p + 1) = q := ⟨_, rfl⟩
      have hq2 : q < s.size - p + 1 := by rw [← hq]; exact Nat.mod_lt _ (by omega)
      have a1 : IntKind.i64.wrap ((s.size : Int) - p) = (s.size : Int) - p := w64_id (by omega)
      have a2 : IntKind.i64.wrap ((s.size : Int) - p + 1) = (s.size : Int) - p + 1 := w64_id (by omega)
      have a3 : ¬ ((s.size : Int) - p + 1 = 0) := by omega
      have a4 : Int.tmod (x : Int) ((s.size : Int) - p + 1) = (q : Int) := by
        rw [Int.tmod_eq_emod_of_nonneg (by omega), ← hq, show (s.size : Int) - p + 1 = ((s.size - p + 1 : Nat) : Int) by omega]
        rfl
      have a5 : IntKind.i64.wrap (x : Int) = (x : Int) := w64_id (by omega)
      have a6 : IntKind.i64.wrap (q : Int) = (q : Int) := w64_id (by omega)
      have a7 : IntKind.i64.wrap ((p : Int) + q) = ((p + q : Nat) : Int) := by first | (rw [w64_id (by omega)]; done) | (rw [w64_id (by omega)]; omega)
      have hpq : p + q ≤ s.size := by omega
      obtain ⟨p', hp'⟩ : ∃ p', p + q = p' := ⟨_, rfl⟩
      have hqe : p' - p = q := by omega
      rw [hp'] at a7 hpq
      have HP := Lib.hid (show p + q = p' ∧ p ≤ p' ∧ p' - p = q from ⟨hp', by omega, hqe⟩)
      clear hq hq2 hp' hqe
      obtain ⟨r, er⟩ : ∃ r, mR ((l.drop p).take (p' - p)) = r := ⟨_, rfl⟩
      obtain ⟨rb, ru, rc, rx, rn, rh, rt⟩ := r
      have G1 := Lib.hid (fun W hW => range_calls s p p' hs HP.out.2.1 hpq ((congrArg (fun z => mR ((z.drop p).take (p' - p))) hl.out).trans er) W hW)
      have ER := Lib.hid er
      clear er
      obtain ⟨Ad, cp, rfl, -⟩ := RdS_own ho.out
      go_wp2_with (first
        | (go_at_call 25; (with_reducible refine (G1.out _ (HT.out.below hb.out)).mono ?_); rintro e wz ⟨rfl, gz⟩; have hb2 := Lib.hid (bel_call hb.out gz); have ho2 := Lib.hid (Wk.own_below ho.out gz); clear gz)
        | (at_builtin; go_loud (refine wpList_append_own _ rfl _ _ 24 rfl w.heap.size 26 i0 (.agg #[.int .i64 0, .int .i64 0, .int .i64 0, .int .i64 0, .int .i64 0, .string ⟨#[]⟩, .string ⟨#[]⟩]) 7 72 Tryd.underlying24 HI.out.1 HI.out.2.1 HI.out.2.2.1 HI.out.2.2.2 rfl (by decide) _ _ _ rfl (World.ownsRow.alloc ho2.out _) ⟨wz.heap.size, 0, none⟩ 1 1 [.int .i64 rb, .int .i64 ru, .int .i64 rc, .int .i64 rx, .int .i64 rn, .string rh, .string rt] rfl rfl ?c1 ?c2 ?c3 ?c4 ?c5 ?_)))
      case c1 =>
        intro j u hj
        exact cells_new wz _ 26 j u hj
      case c2 => simp [Value.oneCell']
      case c3 => unfold maxLen; omega
      case c4 => omega
      case c5 => have h1 := hb2.out.size; simp at h1 ⊢; omega
      intro v' w2 hown' hgrow _
      have hb3 := Lib.hid ((bel_alloc hb2.out _).grown hgrow (by have h1 := hb2.out.size; simp at h1 ⊢; omega) (fun k hk => (ho2.out.lt k hk).1))
      have ho3 : Hid (World.ownsRow w2 w.heap.size 26 7 v' (L ++ ([⟨rb, ru, rc, rx, rn, rh, rt⟩] : List Sr)).length (flatR (L ++ ([⟨rb, ru, rc, rx, rn, rh, rt⟩] : List Sr)))) := by
        show World.ownsRow _ _ _ _ _ _ _
        rw [flatR_snoc, List.length_append]
        exact hown'
      clear hown' hgrow
      have hwi : IntKind.i64.wrap ((L.length : Int) + 1) = (L.length : Int) + 1 := w64_id (by omega)
      go_wp2_with fail
      go_roundw
      case rel =>
        refine ⟨L.length + 1, p', T ++ [(l.drop p).take (p' - p)], L ++ ([⟨rb, ru, rc, rx, rn, rh, rt⟩] : List Sr), by go_num, by omega, rfl, hpq, by simp, ⟨?_, ?_, ?_⟩, ho3.out, hb3.out⟩
        · rw [list_step ht.out.1, show p + (p' - p) = p' by have := HP.out; omega]
        · rw [List.length_append, ht.out.2.1]; rfl
        · rw [List.map_append, ht.out.2.2, List.map_cons, List.map_nil, ER.out]
      case measure => simp [intOf]; omega
    · obtain ⟨r, er⟩ : ∃ r, mR ((l.drop p).take (s.size - p)) = r := ⟨_, rfl⟩
      obtain ⟨rb, ru, rc, rx, rn, rh, rt⟩ := r
      have G1 := Lib.hid (fun W hW => range_calls s p s.size hs hp (Nat.le_refl _) ((congrArg (fun z => mR ((z.drop p).take (s.size - p))) hl.out).trans er) W hW)
      obtain ⟨m, em⟩ : ∃ m, mR l = m := ⟨_, rfl⟩
      obtain ⟨mb, mu, mc, mx, mn, mh, mt⟩ := m
      have M1 := Lib.hid (fun W hW => measR s hs ((congrArg mR hl.out).trans em) W hW)
      have hTl : T.length + 1 ≤ 1000000000 := by have := ht.out.2.1; omega
      have J1 := Lib.hid (fun W Ad n cp (hn : n = T.length + 1) hR hT => joinLE (A := Ad) (n := n) (c := cp) (W := W) (T ++ [(l.drop p).take (s.size - p)]) (l := l) (by rw [list_step ht.out.1, List.take_of_length_le (by rw [hlen.out]; omega)]) (by rw [hlen.out]; exact hs) (by rw [List.length_append]; exact hn) (L ++ ([⟨rb, ru, rc, rx, rn, rh, rt⟩] : List Sr)) (by rw [List.map_append, ht.out.2.2, List.map_cons, List.map_nil, er]) hT em (by rw [List.length_append]; exact hTl) hR)
      have ee : eqB mb mb mu mu mc mc mx mx mn mn mh mh mt mt = true := eqS_self ⟨mb, mu, mc, mx, mn, mh, mt⟩
      have ER := Lib.hid er
      have EM := Lib.hid em
      have HTL := Lib.hid ht.out.2.1
      clear er em hTl
      obtain ⟨Ad, cp, rfl, -⟩ := RdS_own ho.out
      go_wp2_with (first
        | (go_at_call 25; (with_reducible refine (G1.out _ (HT.out.below hb.out)).mono ?_); rintro e wz ⟨rfl, gz⟩; have hb2 := Lib.hid (bel_call hb.out gz); have ho2 := Lib.hid (Wk.own_below ho.out gz); clear gz)
        | (at_builtin; go_loud (refine wpList_append_own _ rfl _ _ 24 rfl w.heap.size 26 i0 (.agg #[.int .i64 0, .int .i64 0, .int .i64 0, .int .i64 0, .int .i64 0, .string ⟨#[]⟩, .string ⟨#[]⟩]) 7 72 Tryd.underlying24 HI.out.1 HI.out.2.1 HI.out.2.2.1 HI.out.2.2.2 rfl (by decide) _ _ _ rfl (World.ownsRow.alloc ho2.out _) ⟨wz.heap.size, 0, none⟩ 1 1 [.int .i64 rb, .int .i64 ru, .int .i64 rc, .int .i64 rx, .int .i64 rn, .string rh, .string rt] rfl rfl ?c1 ?c2 ?c3 ?c4 ?c5 ?_)))
      case c1 =>
        intro j u hj
        exact cells_new wz _ 26 j u hj
      case c2 => simp [Value.oneCell']
      case c3 => unfold maxLen; omega
      case c4 => omega
      case c5 => have h1 := hb2.out.size; simp at h1 ⊢; omega
      intro v' w2 hown' hgrow _
      have hb3 := (bel_alloc hb2.out _).grown hgrow (by have h1 := hb2.out.size; simp at h1 ⊢; omega) (fun k hk => (ho2.out.lt k hk).1)
      have ho3 : World.ownsRow w2 w.heap.size 26 7 v' (L ++ ([⟨rb, ru, rc, rx, rn, rh, rt⟩] : List Sr)).length (flatR (L ++ ([⟨rb, ru, rc, rx, rn, rh, rt⟩] : List Sr))) := by
        rw [flatR_snoc, List.length_append]
        exact hown'
      clear hown' hgrow
      obtain ⟨Ae, ce, hve, hRd⟩ := RdS_own ho3
      rw [show (L ++ ([⟨rb, ru, rc, rx, rn, rh, rt⟩] : List Sr)).length = L.length + 1 by simp] at hve
      subst hve
      have hn1 : Hid (L.length + 1 = T.length + 1) := by show _ = _; rw [HTL.out]
      have HRd := Lib.hid hRd
      replace hb3 := Lib.hid hb3
      clear ho3 hRd
      go_wp2_with (first
        | (go_at_call 17; (with_reducible refine (J1.out _ _ _ _ hn1.out HRd.out (HT.out.below hb3.out)).mono ?_); rintro e w4 ⟨rfl, g4⟩; have hb4 := Lib.hid (bel_call hb3.out g4); clear g4)
        | (go_at_call 19; (with_reducible refine (M1.out _ (HT.out.below hb4.out)).mono ?_); rintro e w5 ⟨rfl, g5⟩; have hb5 := Lib.hid (bel_call hb4.out g5); clear g5))
      go_ret
      exact ⟨rfl, hb5.out⟩
end Go.Proofs.YtoodidokjchplaaDoor.Un
