/- metric.Join: walked. -/
import Derived.Test.YtoodidokjchplaaDoorEQ
namespace Go.Proofs.YtoodidokjchplaaDoor.Un
open Go Go.RowKit Go.Shelf
open Go.Proofs.YtoodidokjchplaaDoor.Wk (bcell bel_drew bel_drewN bel_alloc bel_set bel_call size_len blk_cell blk_below blk_lt mk_data)
set_option linter.unusedVariables false
set_option linter.unusedSimpArgs false
attribute [local go_sem high] eqA26
def pairR (m p : Sr) : Sr :=
  ⟨IntKind.i64.wrap (m.b + p.b),
   IntKind.i64.wrap (IntKind.i64.wrap (IntKind.i64.wrap (IntKind.i64.wrap (m.u + p.u) + (cU (m.t ++ p.h).data.toList : Nat)) - (cU m.t.data.toList : Nat)) - (cU p.h.data.toList : Nat)),
   IntKind.i64.wrap (IntKind.i64.wrap (IntKind.i64.wrap (IntKind.i64.wrap (m.c + p.c) + (cC (m.t ++ p.h).data.toList : Nat)) - (cC m.t.data.toList : Nat)) - (cC p.h.data.toList : Nat)),
   IntKind.i64.wrap (IntKind.i64.wrap (IntKind.i64.wrap (IntKind.i64.wrap (m.x + p.x) + cX (m.t ++ p.h).data.toList) - cX m.t.data.toList) - cX p.h.data.toList),
   IntKind.i64.wrap (m.n + p.n), hdR m.h p.h, tlR m.t p.t⟩
theorem pair_calls (m p : Sr) (s1 : m.t.size ≤ 400000000) (s2 : p.h.size ≤ 400000000) (w : World) (hT : Tb w) :
    Calls Tryd.prog 44 #[m.v, p.v] w fun e w' => e = .returned (pairR m p).v ∧ Below w.heap.size w w' :=
  pair_raw _ _ _ _ _ _ _ _ _ _ _ _ _ _ s1 s2 w hT
def joinR : Sr → List Sr → Sr
  | m, [] => m
  | m, p :: r => joinR (if eqS m Sr.z = true then p else pairR m p) r
theorem joinR_snoc (p : Sr) : ∀ (L : List Sr) (m : Sr), joinR m (L ++ [p]) = if eqS (joinR m L) Sr.z = true then p else pairR (joinR m L) p
  | [], m => rfl
  | q :: r, m => by show joinR _ (r ++ [p]) = _; rw [joinR_snoc p r]; rfl
theorem hdR_le (a b : ByteArray) (h : a.size ≤ 400000000) : (hdR a b).size ≤ 400000000 := by
  unfold hdR
  split
  · rw [← size_len]
    show (hd (a ++ b).data.toList).length ≤ _
    rw [hd_len]; omega
  · exact h
theorem tlR_le (a b : ByteArray) (h : b.size ≤ 400000000) : (tlR a b).size ≤ 400000000 := by
  unfold tlR
  split
  · rw [← size_len]
    show (tl (a ++ b).data.toList).length ≤ _
    rw [tl_len]; omega
  · exact h
theorem join_step {L : List Sr} {i : Nat} {m p : Sr} (hi : i < L.length) (hm : joinR Sr.z (L.take i) = m) (hp : L[i] = p) : joinR Sr.z (L.take (i + 1)) = if eqS m Sr.z = true then p else pairR m p := by
  rw [List.take_succ_eq_append_getElem hi, joinR_snoc, hm, hp]
/-- A row of summaries. -/
def RdS (W : World) (A : Option Addr) (L : List Sr) : Prop := ∀ i (hi : i < L.length), ∃ ad : Addr, A = some ad ∧
  W.cell? (ad.add (i * 7)) = some (.int .i64 L[i].b) ∧ W.cell? ⟨(ad.add (i * 7)).block, (ad.add (i * 7)).off + 1, none⟩ = some (.int .i64 L[i].u) ∧ W.cell? ⟨(ad.add (i * 7)).block, (ad.add (i * 7)).off + 2, none⟩ = some (.int .i64 L[i].c) ∧
  W.cell? ⟨(ad.add (i * 7)).block, (ad.add (i * 7)).off + 3, none⟩ = some (.int .i64 L[i].x) ∧ W.cell? ⟨(ad.add (i * 7)).block, (ad.add (i * 7)).off + 4, none⟩ = some (.int .i64 L[i].n) ∧ W.cell? ⟨(ad.add (i * 7)).block, (ad.add (i * 7)).off + 5, none⟩ = some (.string L[i].h) ∧ W.cell? ⟨(ad.add (i * 7)).block, (ad.add (i * 7)).off + 6, none⟩ = some (.string L[i].t)
theorem cell_below {W W' : World} {a : Addr} {v : Value} (h : W.cell? a = some v) (hb : Below W.heap.size W W') : W'.cell? a = some v := by
  have hlt := World.block_lt_of_cell? _ _ h
  rw [← h]
  exact hb.cell hlt
theorem RdS.below {W W' : World} {A : Option Addr} {L : List Sr} (h : RdS W A L) (hb : Below W.heap.size W W') : RdS W' A L := by
  intro i hi
  obtain ⟨ad, e, c0, c1, c2, c3, c4, c5, c6⟩ := h i hi
  exact ⟨ad, e, cell_below c0 hb, cell_below c1 hb, cell_below c2 hb, cell_below c3 hb, cell_below c4 hb, cell_below c5 hb, cell_below c6 hb⟩
theorem two_box (w : World) : ∃ W, W = ((w.alloc (.cells #[.int .i64 0, .int .i64 0, .int .i64 0, .int .i64 0, .int .i64 0, .string ⟨#[]⟩, .string ⟨#[]⟩] 26)).alloc (.cells #[.int .i64 0, .int .i64 0, .int .i64 0, .int .i64 0, .int .i64 0, .string ⟨#[]⟩, .string ⟨#[]⟩] 26)) ∧
    BxR W w.heap.size 0 0 0 0 0 ⟨#[]⟩ ⟨#[]⟩ ∧ BxR W (w.heap.size + 1) 0 0 0 0 0 ⟨#[]⟩ ⟨#[]⟩ ∧ Below w.heap.size w W ∧ W.heap.size = w.heap.size + 2 := by
  have h1 := heap_alloc_new w (.cells #[.int .i64 0, .int .i64 0, .int .i64 0, .int .i64 0, .int .i64 0, .string ⟨#[]⟩, .string ⟨#[]⟩] 26)
  have h2 := heap_alloc_new (w.alloc (.cells #[.int .i64 0, .int .i64 0, .int .i64 0, .int .i64 0, .int .i64 0, .string ⟨#[]⟩, .string ⟨#[]⟩] 26)) (.cells #[.int .i64 0, .int .i64 0, .int .i64 0, .int .i64 0, .int .i64 0, .string ⟨#[]⟩, .string ⟨#[]⟩] 26)
  rw [Wk.size_alloc] at h2
  exact ⟨_, rfl, Wk.blk_alloc h1 _, h2, bel_alloc (bel_alloc (Below.refl _ _) _) _, by rw [Wk.size_alloc, Wk.size_alloc]⟩
set_option maxRecDepth 100000 in
set_option maxHeartbeats 4000000 in
theorem join_calls (A : Option Addr) (L : List Sr) (n c : Nat) (hn : n = L.length) (hnm : (n : Int) ≤ 9223372036854775807) (hL : ∀ p ∈ L, p.h.size ≤ 400000000 ∧ p.t.size ≤ 400000000) (w : World) (hT : Tb w) (hR : RdS w A L) :
    Calls Tryd.prog 17 #[.slice A n c] w fun e w' => e = .returned (joinR Sr.z L).v ∧ Below w.heap.size w w' := by
  subst hn
  have HT := Lib.hid hT
  have HR := Lib.hid hR
  clear hT hR
  go_enter Tryd.func17, Tryd.ntmps17
  go_upto_region 2 with fail
  obtain ⟨W, hW, a1, a2, hB, hsz⟩ := two_box w
  rw [← hW]
  clear hW
  obtain ⟨R0, hR0⟩ : ∃ R0, w.heap.size = R0 := ⟨_, rfl⟩
  obtain ⟨M, hM⟩ : ∃ M, R0 + 1 = M := ⟨_, rfl⟩
  rw [hR0] at a1 a2 hsz ⊢
  rw [hM] at a2 ⊢
  have HS : Hid (R0 = w.heap.size ∧ R0 < M ∧ R0 + 1 = M ∧ ∀ p ∈ L, p.h.size ≤ 400000000 ∧ p.t.size ≤ 400000000) := ⟨hR0.symm, by omega, hM, hL⟩
  have HA1 := Lib.hid a1
  have HA2 := Lib.hid a2
  have HB := Lib.hid hB
  clear a1 a2 hB hL hsz hM hR0
  go_wp2_with fail
  go_loopw [8] (fun v8 wr => ∃ (i : Nat) (m : Sr), v8 = .int .i64 i ∧ i ≤ L.length ∧ Hid (joinR Sr.z (L.take i) = m ∧ m.h.size ≤ 400000000 ∧ m.t.size ≤ 400000000) ∧ Hid (BxR wr M m.b m.u m.c m.x m.n m.h m.t) ∧ Hid (BxR wr R0 0 0 0 0 0 ⟨#[]⟩ ⟨#[]⟩) ∧ Hid (Below w.heap.size w wr)) (fun v8 _ => L.length - (intOf v8).toNat)
  case atStart => exact ⟨0, Sr.z, rfl, by omega, ⟨rfl, by decide, by decide⟩, HA2.out, HA1.out, HB.out⟩
  case round =>
    obtain ⟨i, ⟨mb, mu, mc, mx, mn, mh, mt⟩, rfl, hin, hm, b2, b1, bb⟩ := hrel
    clear HA1 HA2 HB
    by_cases hlt : i < L.length
    · have hi : i < L.length := by omega
      obtain ⟨ad, hA, r0, r1, r2, r3, r4, r5, r6⟩ := (HR.out.below bb.out) i hi
      have hp := HS.out.2.2.2 L[i] (List.getElem_mem hi)
      obtain ⟨p, hpe⟩ : ∃ p, L[i] = p := ⟨_, rfl⟩
      rw [hpe] at r0 r1 r2 r3 r4 r5 r6 hp
      obtain ⟨pb, pu, pc, px, pn, ph, pt⟩ := p
      have HP := Lib.hid hp
      replace hpe := Lib.hid hpe
      clear hp
      subst hA
      have hlt' : (i : Int) < L.length := by omega
      go_upto_region 5 with fail
      have k5 := heap_alloc_new wr (.cells #[.int .i64 pb, .int .i64 pu, .int .i64 pc, .int .i64 px, .int .i64 pn, .string ph, .string pt] 26)
      have k2 : BxR (wr.alloc (.cells #[.int .i64 pb, .int .i64 pu, .int .i64 pc, .int .i64 px, .int .i64 pn, .string ph, .string pt] 26)) M mb mu mc mx mn mh mt := Wk.blk_alloc b2.out _
      have k1 : BxR (wr.alloc (.cells #[.int .i64 pb, .int .i64 pu, .int .i64 pc, .int .i64 px, .int .i64 pn, .string ph, .string pt] 26)) R0 0 0 0 0 0 ⟨#[]⟩ ⟨#[]⟩ := Wk.blk_alloc b1.out _
      have kb := bel_alloc bb.out (.cells #[.int .i64 pb, .int .i64 pu, .int .i64 pc, .int .i64 px, .int .i64 pn, .string ph, .string pt] 26)
      have kl : Hid (M < wr.heap.size) := blk_lt b2.out
      obtain ⟨G, hG⟩ : ∃ G, wr.heap.size = G := ⟨_, rfl⟩
      obtain ⟨W1, hW1⟩ : ∃ W1, wr.alloc (.cells #[.int .i64 pb, .int .i64 pu, .int .i64 pc, .int .i64 px, .int .i64 pn, .string ph, .string pt] 26) = W1 := ⟨_, rfl⟩
      rw [hW1, hG] at k5
      rw [hW1] at k2 k1 kb ⊢
      rw [hG] at kl ⊢
      clear hG hW1 b1 b2 bb r0 r1 r2 r3 r4 r5 r6
      obtain ⟨q0, q1, q2, q3, q4, q5, q6⟩ := BxR.cs k2
      obtain ⟨p0, p1, p2, p3, p4, p5, p6⟩ := BxR.cs k5
      have f0 := k2.fz 0
      have f1 := k2.fz 1
      have f2 := k2.fz 2
      have f3 := k2.fz 3
      have f4 := k2.fz 4
      have f5 := k2.fz 5
      have f6 := k2.fz 6
      replace k2 := Lib.hid k2
      replace k1 := Lib.hid k1
      replace k5 := Lib.hid k5
      replace kb := Lib.hid kb
      have ee : eqB mb 0 mu 0 mc 0 mx 0 mn 0 mh ⟨#[]⟩ mt ⟨#[]⟩ = eqS ⟨mb, mu, mc, mx, mn, mh, mt⟩ Sr.z := rfl
      obtain ⟨E, hE⟩ : ∃ E, eqS ⟨mb, mu, mc, mx, mn, mh, mt⟩ Sr.z = E := ⟨_, rfl⟩
      rw [hE] at ee
      replace hE := Lib.hid hE
      go_upto_if 14 with fail
      cases E
      · have hP := Lib.hid (fun W hW => pair_calls ⟨mb, mu, mc, mx, mn, mh, mt⟩ ⟨pb, pu, pc, px, pn, ph, pt⟩ hm.out.2.2 HP.out.1 W hW)
        obtain ⟨r, hr⟩ : ∃ r, pairR ⟨mb, mu, mc, mx, mn, mh, mt⟩ ⟨pb, pu, pc, px, pn, ph, pt⟩ = r := ⟨_, rfl⟩
        rw [hr] at hP
        obtain ⟨rb, ru, rc, rx, rn, rh, rt⟩ := r
        unfold Sr.v smR at hP
        replace hr := Lib.hid hr
        go_wp2_with (first | (go_at_call 44; (with_reducible refine (hP.out _ (HT.out.below kb.out)).mono ?_); rintro e w1 ⟨rfl, b1⟩; have k2' := blk_below k2.out b1; have q0 := (BxR.cs k2').1; have q1 := (BxR.cs k2').2.1; have q2 := (BxR.cs k2').2.2.1; have q3 := (BxR.cs k2').2.2.2.1; have q4 := (BxR.cs k2').2.2.2.2.1; have q5 := (BxR.cs k2').2.2.2.2.2.1; have q6 := (BxR.cs k2').2.2.2.2.2.2; have f0 := BxR.fz k2' 0; have f1 := BxR.fz k2' 1; have f2 := BxR.fz k2' 2; have f3 := BxR.fz k2' 3; have f4 := BxR.fz k2' 4; have f5 := BxR.fz k2' 5; have f6 := BxR.fz k2' 6))
        refine ⟨⟨i + 1, ⟨rb, ru, rc, rx, rn, rh, rt⟩, ?_, by omega, ⟨?_, ?_, ?_⟩, set7b k2', far7 (blk_below k1.out b1) (by have := HS.out.2.1; omega), set7l (bel_call kb.out b1) (by have := HS.out; omega)⟩, by simp [intOf]; omega⟩
        · go_num
        · rw [join_step hi hm.out.1 hpe.out, hE.out]; exact hr.out
        · rw [show rh = (pairR ⟨mb, mu, mc, mx, mn, mh, mt⟩ ⟨pb, pu, pc, px, pn, ph, pt⟩).h by rw [hr.out]]; exact hdR_le _ _ hm.out.2.1
        · rw [show rt = (pairR ⟨mb, mu, mc, mx, mn, mh, mt⟩ ⟨pb, pu, pc, px, pn, ph, pt⟩).t by rw [hr.out]]; exact tlR_le _ _ HP.out.2
      · go_wp2_with fail
        refine ⟨⟨i + 1, ⟨pb, pu, pc, px, pn, ph, pt⟩, by go_num, by omega, ⟨?_, HP.out.1, HP.out.2⟩, set7b k2.out, far7 k1.out (by have := HS.out.2.1; omega), set7l kb.out (by have := HS.out; omega)⟩, by simp [intOf]; omega⟩
        rw [join_step hi hm.out.1 hpe.out, hE.out]; rfl
    · obtain ⟨q0, q1, q2, q3, q4, q5, q6⟩ := BxR.cs b2.out
      obtain ⟨p0, p1, p2, p3, p4, p5, p6⟩ := BxR.cs b1.out
      have f0 := BxR.fz b1.out 0
      have f1 := BxR.fz b1.out 1
      have f2 := BxR.fz b1.out 2
      have f3 := BxR.fz b1.out 3
      have f4 := BxR.fz b1.out 4
      have f5 := BxR.fz b1.out 5
      have f6 := BxR.fz b1.out 6
      have hie : i = L.length := by omega
      go_wp2_with fail
      have hF := set7b (a0 := .int .i64 mb) (a1 := .int .i64 mu) (a2 := .int .i64 mc) (a3 := .int .i64 mx) (a4 := .int .i64 mn) (a5 := .string mh) (a6 := .string mt) b1.out
      have hB := set7l (a0 := .int .i64 mb) (a1 := .int .i64 mu) (a2 := .int .i64 mc) (a3 := .int .i64 mx) (a4 := .int .i64 mn) (a5 := .string mh) (a6 := .string mt) bb.out (show w.heap.size ≤ R0 by have := HS.out.1; omega)
      obtain ⟨d0, d1, d2, d3, d4, d5, d6⟩ := BxR.cs hF
      have he : joinR Sr.z L = ⟨mb, mu, mc, mx, mn, mh, mt⟩ := by
        have := hm.out.1
        rwa [List.take_of_length_le (by omega)] at this
      refine bodyPost_ret (v := .agg #[.int .i64 mb, .int .i64 mu, .int .i64 mc, .int .i64 mx, .int .i64 mn, .string mh, .string mt]) (by simp [results, Tryd.results17, go_sem, d0, d1, d2, d3, d4, d5, d6]) rfl ⟨by rw [he]; rfl, hB⟩
end Go.Proofs.YtoodidokjchplaaDoor.Un
