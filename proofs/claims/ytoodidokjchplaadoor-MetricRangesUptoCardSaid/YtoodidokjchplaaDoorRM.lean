/- The reference's head, tail, Measure: walked. -/
import Derived.Test.YtoodidokjchplaaDoorRL
namespace Go.Proofs.YtoodidokjchplaaDoor.Un
open Go Go.RowKit Go.Shelf
open Go.Proofs.YtoodidokjchplaaDoor.Wk (bcell bel_drew bel_drewN bel_alloc bel_set bel_call size_len blk_cell blk_below blk_lt mk_data cells_new)
set_option linter.unusedVariables false
set_option linter.unusedSimpArgs false
theorem rhead_calls (s : ByteArray) (hs : s.size ≤ 1000000000) (w : World) :
    Calls Tryd.prog 40 #[.string s] w fun e w' => e = .returned (.string ⟨(hd s.data.toList).toArray⟩) ∧ w' = w := by
  have hlen := size_len s
  go_enter Tryd.func40, Tryd.ntmps40
  by_cases h : s.size ≤ 16
  · have h' : ¬ ((16 : Int) < s.size) := by omega
    have e : (⟨(hd s.data.toList).toArray⟩ : ByteArray) = s := by
      unfold hd
      rw [List.take_of_length_le (by rw [hlen]; exact h)]
    rw [e]
    go_wp2
    go_ret
    exact ⟨rfl, rfl⟩
  · have h' : (16 : Int) < s.size := by omega
    have h16 : (16 : Int) ≤ s.size := by omega
    have e : (⟨(hd s.data.toList).toArray⟩ : ByteArray) = s.extract 0 16 := by
      have : (s.extract 0 16).data.toList = hd s.data.toList := by
        unfold hd
        rw [ByteArray.data_extract, Array.toList_extract]
        simp
      rw [← this]
    rw [e]
    clear h
    go_wp2
    go_ret
    exact ⟨rfl, rfl⟩
theorem rtail_calls (s : ByteArray) (hs : s.size ≤ 1000000000) (w : World) :
    Calls Tryd.prog 41 #[.string s] w fun e w' => e = .returned (.string ⟨(tl s.data.toList).toArray⟩) ∧ w' = w := by
  have hlen := size_len s
  go_enter Tryd.func41, Tryd.ntmps41
  by_cases h : s.size ≤ 16
  · have h' : ¬ ((16 : Int) < s.size) := by omega
    have e : (⟨(tl s.data.toList).toArray⟩ : ByteArray) = s := by
      unfold tl
      rw [back_all (by rw [hlen]; exact h)]
    rw [e]
    go_wp2
    go_ret
    exact ⟨rfl, rfl⟩
  · have h' : (16 : Int) < s.size := by omega
    have hw16 : IntKind.i64.wrap ((s.size : Int) - 16) = (s.size : Int) - 16 := w64_id (by omega)
    have hn16 : ((s.size : Int) - 16).toNat = s.size - 16 := by omega
    have g16 : (16 : Int) ≤ s.size := by omega
    have g17 : (0 : Int) ≤ (s.size : Int) - 16 := by omega
    have g18 : (s.size : Int) - 16 ≤ s.size := by omega
    have e : (⟨(tl s.data.toList).toArray⟩ : ByteArray) = s.extract (s.size - 16) s.size := by
      have : (s.extract (s.size - 16) s.size).data.toList = tl s.data.toList := by
        unfold tl back
        rw [ByteArray.data_extract, Array.toList_extract]
        simp [hlen]
        rw [List.take_of_length_le (by rw [List.length_drop, hlen]; omega)]
      rw [← this]
    rw [e]
    clear h
    go_wp2
    go_ret
    exact ⟨rfl, rfl⟩
theorem stK_bd (p : Option Int) (c : Int) (K : List Int) (h : ∀ x ∈ K, 0 ≤ x ∧ x ≤ 2) : ∀ x ∈ stK p c K, 0 ≤ x ∧ x ≤ 2 := by
  unfold stK
  intro x hx
  split at hx
  · split at hx
    · rcases List.mem_append.1 hx with h1 | h1
      · exact h x (List.dropLast_subset _ h1)
      · rw [List.mem_singleton] at h1; omega
    · exact h x hx
  · rcases List.mem_append.1 hx with h1 | h1
    · exact h x h1
    · rw [List.mem_singleton] at h1
      have := cel_range c
      omega
theorem runK_bd : ∀ (U : List (Int × Nat)) (p : Option Int) (K : List Int), (∀ x ∈ K, 0 ≤ x ∧ x ≤ 2) → ∀ x ∈ runK p K U, 0 ≤ x ∧ x ≤ 2
  | [], _, K, h => h
  | (c, _) :: r, p, K, h => runK_bd r (some c) _ (stK_bd p c K h)
theorem sum_bd : ∀ (K : List Int), (∀ x ∈ K, 0 ≤ x ∧ x ≤ 2) → 0 ≤ K.sum ∧ K.sum ≤ 2 * K.length
  | [], _ => by simp
  | x :: r, h => by
    have h1 := h x List.mem_cons_self
    have h2 := sum_bd r (fun y hy => h y (List.mem_cons_of_mem _ hy))
    rw [List.sum_cons, List.length_cons]
    omega
theorem cnt_step2 (s : ByteArray) (i : Nat) (h : i < s.size) : (s.data.toList.take (i + 1)).count 10 = (s.data.toList.take i).count 10 + (if s[i] = 10 then 1 else 0) := by
  have hl : i < s.data.toList.length := by rw [size_len]; exact h
  rw [List.take_succ_eq_append_getElem hl, List.count_append, List.count_singleton]
  have e : s.data.toList[i] = s[i] := by simp; rfl
  rw [e]
  by_cases q : s[i] = 10
  · rw [if_pos q, q]; simp
  · rw [if_neg q]; simp [q]
structure MM (w : World) (R0 M : Nat) (b u c x n : Int) (h t : ByteArray) (W : World) : Prop where
  hr : BxR W R0 0 0 0 0 0 ⟨#[]⟩ ⟨#[]⟩
  hm : BxR W M b u c x n h t
  bel : Below w.heap.size w W
  lt : R0 ≠ M ∧ w.heap.size ≤ R0 ∧ w.heap.size ≤ M
theorem MM.call {w W W' : World} {R0 M : Nat} {b u c x n : Int} {h t : ByteArray} (H : MM w R0 M b u c x n h t W) (hb : Below W.heap.size W W') : MM w R0 M b u c x n h t W' := ⟨blk_below H.hr hb, blk_below H.hm hb, bel_call H.bel hb, H.lt⟩
theorem MM.dr {w W : World} {R0 M : Nat} {b u c x n : Int} {h t : ByteArray} (H : MM w R0 M b u c x n h t W) : MM w R0 M b u c x n h t W.drew := ⟨H.hr, H.hm, bel_drew H.bel, H.lt⟩
theorem MM.s1 {w W : World} {R0 M : Nat} {b u c x n : Int} {h t : ByteArray} (H : MM w R0 M b u c x n h t W) (z : Int) : MM w R0 M b z c x n h t (W.setCell ⟨M, 1, none⟩ (.int .i64 z)) := ⟨Wk.blk_far H.hr H.lt.1 _, Wk.blk_set H.hm 1 _, bel_set H.bel H.lt.2.2 _, H.lt⟩
theorem MM.s2 {w W : World} {R0 M : Nat} {b u c x n : Int} {h t : ByteArray} (H : MM w R0 M b u c x n h t W) (z : Int) : MM w R0 M b u z x n h t (W.setCell ⟨M, 2, none⟩ (.int .i64 z)) := ⟨Wk.blk_far H.hr H.lt.1 _, Wk.blk_set H.hm 2 _, bel_set H.bel H.lt.2.2 _, H.lt⟩
theorem MM.s3 {w W : World} {R0 M : Nat} {b u c x n : Int} {h t : ByteArray} (H : MM w R0 M b u c x n h t W) (z : Int) : MM w R0 M b u c z n h t (W.setCell ⟨M, 3, none⟩ (.int .i64 z)) := ⟨Wk.blk_far H.hr H.lt.1 _, Wk.blk_set H.hm 3 _, bel_set H.bel H.lt.2.2 _, H.lt⟩
theorem MM.s4 {w W : World} {R0 M : Nat} {b u c x n : Int} {h t : ByteArray} (H : MM w R0 M b u c x n h t W) (z : Int) : MM w R0 M b u c x z h t (W.setCell ⟨M, 4, none⟩ (.int .i64 z)) := ⟨Wk.blk_far H.hr H.lt.1 _, Wk.blk_set H.hm 4 _, bel_set H.bel H.lt.2.2 _, H.lt⟩
theorem flC_get : ∀ (Q : List (Int × Int × Int × Int)) (i : Nat) (hi : i < Q.length), (flC Q)[i * 4 + 3]? = some (.int .i64 Q[i].2.2.2)
  | m :: r, 0, _ => rfl
  | m :: r, i + 1, hi => by
    have h := flC_get r i (by simpa using hi)
    have e : flC (m :: r) = qc m ++ flC r := rfl
    rw [e, List.getElem?_append_right (by show 4 ≤ _; omega), show (i + 1) * 4 + 3 - (qc m).length = i * 4 + 3 by show (i + 1) * 4 + 3 - 4 = _; omega]
    exact h
theorem own_q {W : World} {B e n c : Nat} {A : Option Addr} {Q : List (Int × Int × Int × Int)} (h : World.ownsRow W B e 4 (.slice A n c) n (flC Q)) (hn : n = Q.length) (i : Nat) (hi : i < Q.length) : ∃ g, A = some ⟨g, 0, none⟩ ∧ W.cell? ⟨g, i * 4 + 3, none⟩ = some (.int .i64 Q[i].2.2.2) := by
  rcases h.2 with ⟨h1, h0⟩ | ⟨g, cap, cur, h1, hg, hh, hc, _, hsz, htk⟩
  · omega
  · simp only [Value.slice.injEq] at h1
    obtain ⟨rfl, -, rfl⟩ := h1
    refine ⟨g, rfl, ?_⟩
    rw [blk_cell hh, ← flC_get Q i hi, ← htk, List.getElem?_take_of_lt (by omega), Array.getElem?_toList]
theorem sum_step (K : List Int) (i : Nat) (hi : i < K.length) : (K.take (i + 1)).sum = (K.take i).sum + K[i] := by
  rw [List.take_succ_eq_append_getElem hi, List.sum_append]; simp
set_option maxRecDepth 100000 in
set_option maxHeartbeats 8000000 in
theorem rmeas_calls (s : ByteArray) (hs : s.size ≤ 1000000000) {b u c x n : Int} {h t : ByteArray} (e : mR s.data.toList = ⟨b, u, c, x, n, h, t⟩) (w : World) :
    Calls Tryd.prog 16 #[.string s] w fun e w' => e = .returned (.agg #[.int .i64 b, .int .i64 u, .int .i64 c, .int .i64 x, .int .i64 n, .string h, .string t]) ∧ Below w.heap.size w w' := by
  have HD := Lib.hid (fun W => rhead_calls s hs W)
  have TL := Lib.hid (fun W => rtail_calls s hs W)
  have CT := Lib.hid (fun W => rcount_calls s hs W)
  have LS := Lib.hid (fun W => rlist_calls s hs W)
  obtain ⟨l, hl⟩ : ∃ l, s.data.toList = l := ⟨_, rfl⟩
  have hlen : l.length = s.size := by rw [← hl]; exact size_len s
  have hk := runK_all l
  have hkb := runK_bd (unitsOf l) none [] (fun x hx => by cases hx)
  have hcl := cC_le l
  rw [hl] at e HD TL CT LS
  unfold mR toR meas at e
  simp only [Sr.mk.injEq] at e
  obtain ⟨e0, e1, e2, e3, e4, e5, e6⟩ := e
  rw [e5] at HD
  rw [e6] at TL
  rw [e1] at CT
  obtain ⟨KF, hKF⟩ : ∃ KF, runK none [] (unitsOf l) = KF := ⟨_, rfl⟩
  rw [hKF] at LS hk hkb
  have hb0 : b = s.size := by rw [← e0, hlen]
  subst hb0
  have hlb : KF.length ≤ 1000000000 := by omega
  have HKF := Lib.hid (show (KF.length : Int) = c ∧ KF.sum = x ∧ (∀ y ∈ KF, 0 ≤ y ∧ y ≤ 2) from ⟨by rw [hk.1, e2], by rw [hk.2, e3], hkb⟩)
  have HNL := Lib.hid (show ((l.count 10 : Nat) : Int) = n from e4)
  replace hl := Lib.hid hl
  replace hlen := Lib.hid hlen
  clear e0 e1 e2 e3 e4 e5 e6 hk hkb hcl hKF
  go_enter Tryd.func16, Tryd.ntmps16
  go_upto_region 2 with (first
    | (go_at_call 40; (with_reducible refine (HD.out _).mono ?_); rintro e w1 ⟨rfl, rfl⟩)
    | (go_at_call 41; (with_reducible refine (TL.out _).mono ?_); rintro e w2 ⟨rfl, rfl⟩))
  obtain ⟨W, hW⟩ : ∃ W, (w.alloc (.cells #[.int .i64 0, .int .i64 0, .int .i64 0, .int .i64 0, .int .i64 0, .string ⟨#[]⟩, .string ⟨#[]⟩] 26)).alloc (.cells #[.int .i64 s.size, .int .i64 0, .int .i64 0, .int .i64 0, .int .i64 0, .string h, .string t] 26) = W := ⟨_, rfl⟩
  have M0 : MM w w.heap.size (w.heap.size + 1) s.size 0 0 0 0 h t W := by
    rw [← hW]
    have h1 := heap_alloc_new w (.cells #[.int .i64 0, .int .i64 0, .int .i64 0, .int .i64 0, .int .i64 0, .string ⟨#[]⟩, .string ⟨#[]⟩] 26)
    have h2 := heap_alloc_new (w.alloc (.cells #[.int .i64 0, .int .i64 0, .int .i64 0, .int .i64 0, .int .i64 0, .string ⟨#[]⟩, .string ⟨#[]⟩] 26)) (.cells #[.int .i64 s.size, .int .i64 0, .int .i64 0, .int .i64 0, .int .i64 0, .string h, .string t] 26)
    rw [Wk.size_alloc] at h2
    exact ⟨Wk.blk_alloc h1 _, h2, bel_alloc (bel_alloc (Below.refl _ _) _) _, by omega, by omega, by omega⟩
  rw [hW]
  clear hW
  obtain ⟨R0, hR0⟩ : ∃ R0, w.heap.size = R0 := ⟨_, rfl⟩
  rw [hR0] at M0
  obtain ⟨M, hM⟩ : ∃ M, R0 + 1 = M := ⟨_, rfl⟩
  rw [hM] at M0
  rw [hR0, hM]
  have HR0 := Lib.hid hR0
  clear hM hR0 HD TL
  go_upto_region 3 with (first
    | (go_at_call 42; (with_reducible refine (CT.out _).mono ?_); rintro e w3 ⟨rfl, g3⟩; have M1 := M0.call g3; have f1 := BxR.fz M1.hm 1; have c1 := M1.hm.cs.2.1))
  have M2 := M1.s1 u
  obtain ⟨W3, hW3⟩ : ∃ W3, w3.setCell ⟨M, 1, none⟩ (.int .i64 u) = W3 := ⟨_, rfl⟩
  rw [hW3] at M2
  rw [hW3]
  clear hW3 M1 M0 f1 c1 CT g3
  have hMW : M < W3.heap.size := blk_lt M2.hm
  go_upto_region 5 with (first
    | (go_at_call 43; (with_reducible refine (LS.out _).mono ?_); rintro e w4 ⟨v, Q, rfl, ho, hq, g4⟩; obtain ⟨Ae, ce, rfl⟩ := own_len ho; have M3 := M2.call g4; have f2 := BxR.fz M3.hm 2; have c2 := M3.hm.cs.2.2.1))
  have hQl : (Q.length : Int) = c := by
    have := congrArg List.length hq
    rw [List.length_map] at this
    have h2 := HKF.out.1
    omega
  have M4 := M3.s2 c
  have ho2 := own_far2 (G := M) (i := 2) (u := .int .i64 c) ho (fun g e => by
    have := (ho.lt g e).1
    omega)
  obtain ⟨BB, hBB⟩ : ∃ BB, W3.heap.size = BB := ⟨_, rfl⟩
  rw [hBB] at ho2 hMW
  rw [hQl]
  obtain ⟨W5, hW5⟩ : ∃ W5, w4.setCell ⟨M, 2, none⟩ (.int .i64 c) = W5 := ⟨_, rfl⟩
  rw [hW5] at M4 ho2
  rw [hW5]
  have HQ := Lib.hid hq
  have HQl := Lib.hid hQl
  have HMW := Lib.hid hMW
  have HO := Lib.hid ho2
  have HM4 := Lib.hid M4
  clear hW5 M2 M3 f2 c2 LS g4 ho ho2 hq hBB hMW M4
  have hcn : (Q.length : Int) ≤ 1000000000 := by have := HKF.out.1; omega
  clear hQl
  go_wp2_with fail
  have hQK : Q.length = KF.length := by
    have := congrArg List.length HQ.out
    rwa [List.length_map] at this
  have HQK := Lib.hid hQK
  clear hQK
  go_loopw [5] (fun v5 wr => ∃ i : Nat, v5 = .int .i64 i ∧ i ≤ Q.length ∧ Hid (MM w R0 M s.size u c (KF.take i).sum 0 h t wr) ∧ Hid (World.ownsRow wr BB 62 4 (.slice Ae Q.length ce) Q.length (flC Q))) (fun v5 _ => Q.length - (intOf v5).toNat)
  case atStart => exact ⟨0, rfl, by omega, HM4.out, HO.out⟩
  case round =>
    clear HM4 HO
    obtain ⟨i, rfl, hi, hm, ho⟩ := hrel
    have hiw : IntKind.i64.wrap ((i : Int) + 1) = (i : Int) + 1 := w64_id (by omega)
    by_cases hlt : i < Q.length
    · have hlt' : (i : Int) < Q.length := by omega
      have hK : i < KF.length := by rw [← HQK.out]; exact hlt
      obtain ⟨g, hg, k0⟩ := own_q ho.out rfl i hlt
      subst hg
      have hkv : Q[i].2.2.2 = KF[i] := by
        have := HQ.out
        subst this
        simp
      rw [hkv] at k0
      have hss := sum_step KF i hK
      have hb1 := HKF.out.2.2 KF[i] (List.getElem_mem hK)
      have hb2 := sum_bd (KF.take i) (fun y hy => HKF.out.2.2 y (List.mem_of_mem_take hy))
      rw [List.length_take] at hb2
      obtain ⟨X, hX⟩ : ∃ X, (KF.take i).sum = X := ⟨_, rfl⟩
      obtain ⟨k, hk⟩ : ∃ k, KF[i] = k := ⟨_, rfl⟩
      rw [hk] at k0 hss hb1
      rw [hX] at hm hss hb2
      have hw : IntKind.i64.wrap (X + k) = X + k := w64_id (by omega)
      have m3 := hm.out.hm.cs.2.2.2.1
      have f3 := hm.out.hm.fz 3
      have HSS := Lib.hid hss
      have hMg : g ≠ M := by
        rcases ho.out.2 with ⟨h1, -⟩ | ⟨g', cap, cur, h1, hg', -⟩
        · cases h1
        · simp only [Value.slice.injEq] at h1
          have := h1.1
          cases this
          have := HMW.out
          omega
      have HMg := Lib.hid hMg
      clear hX hk hkv hss hb1 hb2 hMg hK
      go_upto_region 8 with fail
      go_region
      go_wp2_with fail
      go_roundw
      case rel =>
        refine ⟨i + 1, by go_num, by omega, ?_, ?_⟩
        · show MM _ _ _ _ _ _ _ _ _ _ _
          rw [HSS.out]
          exact MM.s3 (MM.dr hm.out) (X + k)
        · show World.ownsRow _ _ _ _ _ _ _
          exact own_far2 (W := wr.drew) ho.out (fun g' e => by cases e; exact HMg.out)
      case measure => simp [intOf]; omega
    · have hx : (KF.take i).sum = x := by
        rw [List.take_of_length_le (by have := HQK.out; omega)]
        exact HKF.out.2.1
      rw [hx] at hm
      clear hx ho
      have hge : (Q.length : Int) ≤ i := by omega
      obtain ⟨wo, rfl⟩ : ∃ wo : World, wo = wr := ⟨_, rfl⟩
      go_wp2_with fail
      go_loopw [6] (fun v6 wr => ∃ j : Nat, v6 = .int .i64 j ∧ j ≤ s.size ∧ Hid (MM w R0 M s.size u c x ((l.take j).count 10 : Nat) h t wr)) (fun v6 _ => s.size - (intOf v6).toNat)
      case atStart => exact ⟨0, rfl, by omega, hm.out⟩
      case round =>
        obtain ⟨j, rfl, hj, hm2⟩ := hrel
        have hjw : IntKind.i64.wrap ((j : Int) + 1) = (j : Int) + 1 := w64_id (by omega)
        by_cases hjl : j < s.size
        · have hjl' : (j : Int) < s.size := by omega
          have hcn2 := cnt_step2 s j hjl
          rw [hl.out] at hcn2
          obtain ⟨q, hq⟩ : ∃ q, (l.take j).count 10 = q := ⟨_, rfl⟩
          have hqb : q ≤ s.size := by
            have h1 := List.count_le_length (a := (10 : UInt8)) (l := l.take j)
            rw [List.length_take] at h1
            omega
          rw [hq] at hcn2 hm2
          have hqw : IntKind.i64.wrap ((q : Int) + 1) = (q : Int) + 1 := w64_id (by omega)
          have m4 := hm2.out.hm.cs.2.2.2.2.1
          have f4 := hm2.out.hm.fz 4
          clear hq
          by_cases h10 : s[j] = 10
          · have ht : ((s[j].toNat : Int) == 10) = true := by rw [h10]; rfl
            rw [if_pos h10] at hcn2
            have HC2 := Lib.hid hcn2
            clear hcn2 h10
            go_wp2_with fail
            refine ⟨⟨j + 1, by go_num, by omega, ?_⟩, by simp [intOf]; omega⟩
            show MM _ _ _ _ _ _ _ _ _ _ _
            rw [HC2.out]
            have := MM.s4 hm2.out ((q : Int) + 1)
            simpa using this
          · have ht : ((s[j].toNat : Int) == 10) = false := by
              have : s[j].toNat ≠ 10 := fun h => h10 (by rw [← UInt8.toNat_inj]; exact h)
              simp; omega
            rw [if_neg h10, Nat.add_zero] at hcn2
            have HC2 := Lib.hid hcn2
            clear hcn2 h10
            go_wp2_with fail
            refine ⟨⟨j + 1, by go_num, by omega, ?_⟩, by simp [intOf]; omega⟩
            show MM _ _ _ _ _ _ _ _ _ _ _
            rw [HC2.out]
            exact hm2.out
        · have hn : (((l.take j).count 10 : Nat) : Int) = n := by
            rw [List.take_of_length_le (by rw [hlen.out]; omega)]
            exact HNL.out
          rw [hn] at hm2
          clear hn hm
          obtain ⟨q0, q1, q2, q3, q4, q5, q6⟩ := hm2.out.hm.cs
          obtain ⟨p0, p1, p2, p3, p4, p5, p6⟩ := hm2.out.hr.cs
          have f0 := hm2.out.hr.fz 0
          have f1 := hm2.out.hr.fz 1
          have f2 := hm2.out.hr.fz 2
          have f3 := hm2.out.hr.fz 3
          have f4 := hm2.out.hr.fz 4
          have f5 := hm2.out.hr.fz 5
          have f6 := hm2.out.hr.fz 6
          have hge2 : (s.size : Int) ≤ j := by omega
          go_wp2_with fail
          have hF := set7b (a0 := .int .i64 s.size) (a1 := .int .i64 u) (a2 := .int .i64 c) (a3 := .int .i64 x) (a4 := .int .i64 n) (a5 := .string h) (a6 := .string t) hm2.out.hr
          have hB := set7l (a0 := .int .i64 s.size) (a1 := .int .i64 u) (a2 := .int .i64 c) (a3 := .int .i64 x) (a4 := .int .i64 n) (a5 := .string h) (a6 := .string t) hm2.out.bel hm2.out.lt.2.1
          obtain ⟨d0, d1, d2, d3, d4, d5, d6⟩ := BxR.cs hF
          refine bodyPost_ret (v := .agg #[.int .i64 s.size, .int .i64 u, .int .i64 c, .int .i64 x, .int .i64 n, .string h, .string t]) (by simp [results, Tryd.results16, go_sem, d0, d1, d2, d3, d4, d5, d6]) rfl ⟨rfl, hB⟩
end Go.Proofs.YtoodidokjchplaaDoor.Un
