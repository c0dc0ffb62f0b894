/- The reference's hex, one: walked. -/
import Derived.Test.YtibgefampokfkaaDoorScD
namespace Go.Proofs.YtibgefampokfkaaDoor.Sc
open Go Go.RowKit Go.Proofs.YtibgefampokfkaaDoor.Cut
open Go.Proofs.YtibgefampokfkaaDoor.Wk (bcell bel_drew bel_alloc bel_set bel_call list_beq list_bne beq_true_i bne_true_i bne_false_i size_len string_of_own own_slice own_below mk_data)
set_option linter.unusedVariables false
set_option linter.unusedSimpArgs false

theorem hxi_at : ∀ i : Nat, i < 16 → hxi (hexOf i) = i := by
  have h : ∀ i : Fin 16, hxi (hexOf i.val) = i.val := by decide +kernel
  exact fun i hi => h ⟨i, hi⟩
theorem hx_hexOf : ∀ (c : UInt8) (x : Nat), hx c = some x → x < 16 ∧ hexOf x = c := by
  have h : ∀ i : Fin 256, (match hx (UInt8.ofNat i.val) with
    | some x => decide (x < 16 ∧ hexOf x = UInt8.ofNat i.val)
    | none => true) = true := by decide +kernel
  intro c x hc
  have := h ⟨c.toNat, c.toNat_lt⟩
  simp only [UInt8.ofNat_toNat, hc] at this
  exact of_decide_eq_true this
theorem hxi_not {c : UInt8} (h : ∀ j : Nat, j < 16 → hexOf j ≠ c) : hxi c = -1 := by
  cases hc : hx c with
  | none => exact hxi_none hc
  | some x => exact absurd (hx_hexOf c x hc).2 (h x (hx_hexOf c x hc).1)
theorem ret_i {n m : Int} (h : n = m) : Ending.returned (.int .i64 n) = .returned (.int .i64 m) := by rw [h]
set_option maxRecDepth 100000 in
theorem rhex_calls (c : UInt8) (w : World) : Calls Tryd.prog 56 #[.int .u8 c.toNat] w fun e w' => e = .returned (.int .i64 (hxi c)) ∧ w' = w := by
  go_enter Tryd.func56, Tryd.ntmps56
  go_wp2
  go_loop [4] (fun v => ∃ i : Nat, v = .int .i64 i ∧ i ≤ 16 ∧ Hid (∀ j : Nat, j < i → hexOf j ≠ c)) (fun v => 16 - (intOf v).toNat)
  case atStart => exact ⟨0, rfl, by omega, fun j hj => absurd hj (by omega)⟩
  case round =>
    obtain ⟨i, rfl, hi, hn⟩ := hrel
    by_cases hlt : i < 16
    · have hb := hexat i hlt
      by_cases hq : hexOf i = c
      · have q : (((hexOf i).toNat : Int) == (c.toNat : Int)) = true := by rw [hq]; simp
        have hx := Lib.hid (hq ▸ hxi_at i hlt : hxi c = i)
        clear hq
        go_wp2
        go_ret
        exact ⟨ret_i hx.out.symm, rfl⟩
      · have q : (((hexOf i).toNat : Int) == (c.toNat : Int)) = false := beq_false_i (fun h => hq (by rw [← UInt8.toNat_inj]; omega))
        have HQ := Lib.hid hq
        clear hq
        go_wp2
        go_round
        case rel => exact ⟨i + 1, by go_num, by omega, fun j hj => by
          rcases Nat.lt_or_ge j i with h | h
          · exact hn.out j h
          · rw [show j = i from by omega]; exact HQ.out⟩
        case measure => simp [intOf]; omega
    · have hx := Lib.hid (hxi_not (c := c) (fun j hj => hn.out j (by omega)))
      go_wp2
      go_ret
      exact ⟨ret_i hx.out.symm, rfl⟩

def le (i : Nat) : UInt8 := ([92, 110, 114, 116, 101] : List UInt8).getD i 0
def me (i : Nat) : UInt8 := ([92, 10, 13, 9, 27] : List UInt8).getD i 0
theorem leat : ∀ (i : Nat) (h : i < 5), (⟨#[92, 110, 114, 116, 101]⟩ : ByteArray)[i]'(show i < 5 from h) = le i
  | 0, _ => rfl | 1, _ => rfl | 2, _ => rfl | 3, _ => rfl | 4, _ => rfl
  | n + 5, h => absurd h (by omega)
theorem meat : ∀ (i : Nat) (h : i < 5), (⟨#[92, 10, 13, 9, 27]⟩ : ByteArray)[i]'(show i < 5 from h) = me i
  | 0, _ => rfl | 1, _ => rfl | 2, _ => rfl | 3, _ => rfl | 4, _ => rfl
  | n + 5, h => absurd h (by omega)
theorem esc_le : ∀ i : Nat, i < 5 → esc (le i) = some (me i)
  | 0, _ => rfl | 1, _ => rfl | 2, _ => rfl | 3, _ => rfl | 4, _ => rfl
  | n + 5, h => absurd h (by omega)
theorem esc_no {d : UInt8} (h : ∀ j : Nat, j < 5 → le j ≠ d) : esc d = none := by
  have h0 : ¬ d = 92 := fun e => h 0 (by omega) e.symm
  have h1 : ¬ d = 110 := fun e => h 1 (by omega) e.symm
  have h2 : ¬ d = 114 := fun e => h 2 (by omega) e.symm
  have h3 : ¬ d = 116 := fun e => h 3 (by omega) e.symm
  have h4 : ¬ d = 101 := fun e => h 4 (by omega) e.symm
  simp [esc, h0, h1, h2, h3, h4]
/-- The first byte that a piece means, and how many bytes say so. -/
def oneN (l : List UInt8) : Nat × Nat := match one l with
  | none => (0, 0)
  | some (c, r) => (c.toNat, l.length - r.length)
theorem oneN_none {l : List UInt8} (h : one l = none) : oneN l = (0, 0) := by unfold oneN; rw [h]
theorem oneN_some {l r : List UInt8} {c : UInt8} (h : one l = some (c, r)) : oneN l = (c.toNat, l.length - r.length) := by unfold oneN; rw [h]
def onV (l : List UInt8) : Value := .tuple #[.int .u8 (oneN l).1, .int .i64 (oneN l).2]
theorem onV_of {l : List UInt8} {a b : Nat} (h : oneN l = (a, b)) : onV l = .tuple #[.int .u8 a, .int .i64 b] := by unfold onV; rw [h]
theorem ret_on {l : List UInt8} {a b : Nat} (h : oneN l = (a, b)) : Ending.returned (.tuple #[.int .u8 a, .int .i64 b]) = .returned (onV l) := by rw [onV_of h]
theorem data0 (s : ByteArray) (h : 0 < s.size) : s.data.toList = s[0] :: s.data.toList.drop 1 := by have := drop_cons s 0 h; simpa using this

set_option maxHeartbeats 4000000 in
set_option maxRecDepth 100000 in
theorem one_calls (s : ByteArray) (w : World) (h0 : 0 < s.size) (hs : s.size ≤ 1000000000) :
    Calls Tryd.prog 46 #[.string s] w fun e w' => e = .returned (onV s.data.toList) ∧ Below w.heap.size w w' := by
  have D0 := Lib.hid (data0 s h0)
  have hc : (s[0].toNat : Int) < 256 := by have := s[0].toNat_lt; omega
  have hz : (0 : Int) < s.size := by omega
  by_cases hA : (s[0].toNat : Int) < 32
  · have H : Hid (oneN s.data.toList = (0, 0)) := oneN_none (by rw [D0.out]; exact one_fall _ (.inl hA))
    go_enter Tryd.func46, Tryd.ntmps46
    go_wp2
    go_ret2
    exact ⟨ret_on (a := 0) (b := 0) H.out, Below.refl _ _⟩
  by_cases hB : 126 < (s[0].toNat : Int)
  · have H : Hid (oneN s.data.toList = (0, 0)) := oneN_none (by rw [D0.out]; exact one_fall _ (.inr hB))
    go_enter Tryd.func46, Tryd.ntmps46
    go_wp2
    go_ret2
    exact ⟨ret_on (a := 0) (b := 0) H.out, Below.refl _ _⟩
  have hA' : 32 ≤ (s[0].toNat : Int) := by omega
  have hB' : (s[0].toNat : Int) ≤ 126 := by omega
  clear hA hB
  by_cases hC : (s[0].toNat : Int) = 92
  · have q := bne_false_i hC
    clear hC
    have HS : Hid (one s.data.toList = slash (s.data.toList.drop 1)) := by
      show _ = _
      rw [D0.out]; exact one_sl _ hA' hB' q
    by_cases h1 : 1 < s.size
    · have D1 := Lib.hid (drop_cons s 1 h1)
      have hz1 : (1 : Int) < s.size := by omega
      have hc1 : (s[1].toNat : Int) < 256 := by have := s[1].toNat_lt; omega
      go_enter Tryd.func46, Tryd.ntmps46
      go_wp2
      go_loopw [6] (fun v wr => ∃ i : Nat, v = .int .i64 i ∧ i ≤ 5 ∧ Hid (∀ j : Nat, j < i → le j ≠ s[1]) ∧ Below w.heap.size w wr) (fun v _ => 5 - (intOf v).toNat)
      case atStart => exact ⟨0, rfl, by omega, fun j hj => absurd hj (by omega), Below.refl _ _⟩
      case round =>
        obtain ⟨i, rfl, hi, hn, hw⟩ := hrel
        by_cases hlt : i < 5
        · have hb := leat i hlt
          have hm := meat i hlt
          have hi5 : (i : Int) < 5 := by omega
          have hi0 : 0 ≤ (i : Int) := by omega
          by_cases hq : le i = s[1]
          · have q2 : (((le i).toNat : Int) == (s[1].toNat : Int)) = true := by rw [hq]; simp
            have H : Hid (oneN s.data.toList = ((me i).toNat, 2)) := by
              show _ = _
              have e1 : one s.data.toList = some (me i, s.data.toList.drop 2) := by
                rw [HS.out, D1.out, ← hq, slash, esc_le i hlt]
              rw [oneN_some e1]
              congr 1
              simp; omega
            clear hq
            go_wp2
            go_quiet (fail)
            go_wp2
            go_ret2
            exact ⟨ret_on H.out, bel_drewN hw _⟩
          · have q2 : (((le i).toNat : Int) == (s[1].toNat : Int)) = false := beq_false_i (fun h => hq (by rw [← UInt8.toNat_inj]; omega))
            have HQ := Lib.hid hq
            clear hq
            go_wp2
            go_quiet (fail)
            go_wp2
            go_roundw
            case rel => exact ⟨i + 1, by go_num, by omega, fun j hj => by
              rcases Nat.lt_or_ge j i with h | h
              · exact hn.out j h
              · rw [show j = i from by omega]; exact HQ.out, bel_drewN hw _⟩
            case measure => simp [intOf]; omega
        · have HE : Hid (esc s[1] = none) := esc_no (fun j hj => hn.out j (by omega))
          have hi5 : 5 ≤ (i : Int) := by omega
          have HSl : Hid (one s.data.toList = if s[1] = 120 then hex2 (s.data.toList.drop 2) else none) := by
            show _ = _
            rw [HS.out, D1.out, slash, HE.out]
          by_cases hx : (s[1].toNat : Int) = 120
          · have q2 := beq_true_i hx
            have hx8 : Hid (s[1] = 120) := (by rw [← UInt8.toNat_inj]; simp; omega : s[1] = 120)
            clear hx
            by_cases h4 : s.size < 4
            · have H : Hid (oneN s.data.toList = (0, 0)) := oneN_none (by rw [HSl.out, if_pos hx8.out]; exact hex2_short (by simp; omega))
              have hz4 : (s.size : Int) < 4 := by omega
              go_wp2
              go_ret2
              exact ⟨ret_on (a := 0) (b := 0) H.out, hw⟩
            · have D2 := Lib.hid (drop_cons s 2 (by omega))
              have D3 := Lib.hid (drop_cons s 3 (by omega))
              have hz4 : 4 ≤ (s.size : Int) := by omega
              have hz2 : (2 : Int) < s.size := by omega
              have hz3 : (3 : Int) < s.size := by omega
              rcases hx2 : hx s[2] with _ | x
              · have H : Hid (oneN s.data.toList = (0, 0)) := oneN_none (by rw [HSl.out, if_pos hx8.out, D2.out, D3.out]; exact hex2_none1 _ _ hx2)
                have e1 := hxi_none hx2
                clear hx2
                go_wp2_with (go_at_call 56; refine (rhex_calls _ _).mono ?_; rintro e wz ⟨rfl, rfl⟩)
                go_ret2
                exact ⟨ret_on (a := 0) (b := 0) H.out, hw⟩
              · have e1 := hxi_some hx2
                have x16 := hx_lt hx2
                rcases hy2 : hx s[3] with _ | y
                · have H : Hid (oneN s.data.toList = (0, 0)) := oneN_none (by rw [HSl.out, if_pos hx8.out, D2.out, D3.out]; exact hex2_none2 _ _ hy2)
                  have e2 := hxi_none hy2
                  clear hx2 hy2
                  go_wp2_with (go_at_call 56; refine (rhex_calls _ _).mono ?_; rintro e wz ⟨rfl, rfl⟩)
                  go_ret2
                  exact ⟨ret_on (a := 0) (b := 0) H.out, hw⟩
                · have H : Hid (oneN s.data.toList = (16 * x + y, 4)) := by
                    show _ = _
                    have y16 := hx_lt hy2
                    have e1 : one s.data.toList = some (UInt8.ofNat (16 * x + y), s.data.toList.drop 4) := by
                      rw [HSl.out, if_pos hx8.out, D2.out, D3.out]; exact hex2_some _ hx2 hy2
                    rw [oneN_some e1]
                    congr 1
                    · rw [UInt8.toNat_ofNat']; omega
                    · simp; omega
                  have e2 := hxi_some hy2
                  have y16 := hx_lt hy2
                  have k1 : IntKind.i64.wrap ((x : Int) * 16) = (x : Int) * 16 := by rw [IntKind.wrap_i64]; omega
                  have k2 : IntKind.i64.wrap ((x : Int) * 16 + y) = (x : Int) * 16 + y := by rw [IntKind.wrap_i64]; omega
                  have k3 : IntKind.u8.wrap ((x : Int) * 16 + y) = (x : Int) * 16 + y := by rw [IntKind.wrap_u8]; omega
                  clear hx2 hy2
                  go_wp2_with (go_at_call 56; refine (rhex_calls _ _).mono ?_; rintro e wz ⟨rfl, rfl⟩)
                  go_quiet ((go_at_call 56; exact Calls.quiet_of_same (rhex_calls _ _)))
                  go_wp2
                  go_ret2
                  refine ⟨?_, bel_drewN hw _⟩
                  rw [onV_of H.out, show ((16 * x + y : Nat) : Int) = (x : Int) * 16 + y from by omega]
                  rfl
          · have q2 := beq_false_i hx
            have hx8 : Hid (¬ s[1] = 120) := (fun h => hx (by rw [h]; rfl) : ¬ s[1] = 120)
            have H : Hid (oneN s.data.toList = (0, 0)) := oneN_none (by rw [HSl.out, if_neg hx8.out])
            clear hx
            go_wp2
            go_ret2
            exact ⟨ret_on (a := 0) (b := 0) H.out, hw⟩
    · have H : Hid (oneN s.data.toList = (0, 0)) := oneN_none (by rw [HS.out, List.drop_of_length_le (by simp; omega)]; rfl)
      have hz1 : (s.size : Int) < 2 := by omega
      go_enter Tryd.func46, Tryd.ntmps46
      go_wp2
      go_ret2
      exact ⟨ret_on (a := 0) (b := 0) H.out, Below.refl _ _⟩
  · have q := bne_true_i hC
    clear hC
    have H : Hid (oneN s.data.toList = (s[0].toNat, 1)) := by
      show _ = _
      have e1 : one s.data.toList = some (s[0], s.data.toList.drop 1) := by
        rw [D0.out]; exact one_ok _ hA' hB' q
      rw [oneN_some e1]
      congr 1
      simp; omega
    go_enter Tryd.func46, Tryd.ntmps46
    go_wp2
    go_ret2
    exact ⟨ret_on H.out, Below.refl _ _⟩

/-- What is left to read, and what has come. -/
def LeftT (l t o : List UInt8) : Prop := unpiece l = (unpiece t).map (o ++ ·)
theorem LeftT.done {l o : List UInt8} (h : LeftT l [] o) : unpR l = (o, true) := by
  have := h
  unfold LeftT at this
  rw [unpiece_nil] at this
  simp [unpR, this]
theorem LeftT.fall {l o t : List UInt8} (h : LeftT l t o) (h1 : one t = none) (hn : t ≠ []) : unpR l = ([], false) := by
  have := h
  unfold LeftT at this
  obtain ⟨c, r, rfl⟩ := List.exists_cons_of_ne_nil hn
  rw [unpiece_cons, h1] at this
  simp [unpR, this]
theorem LeftT.step {l o t r : List UInt8} {c : UInt8} (h : LeftT l t o) (h1 : one t = some (c, r)) : LeftT l r (o ++ [c]) := by
  unfold LeftT at *
  obtain ⟨a, r', rfl⟩ := List.exists_cons_of_ne_nil (show t ≠ [] from by rintro rfl; simp [one] at h1)
  rw [unpiece_cons, h1] at h
  rw [h]
  simp [Option.map_map, Function.comp_def]
theorem one_suffix {t r : List UInt8} {c : UInt8} (h : one t = some (c, r)) : r = t.drop (t.length - r.length) := by
  have key : ∃ n, r = t.drop n ∧ n ≤ t.length := by
    match t with
    | [] => simp [one] at h
    | d :: t =>
      simp only [one] at h
      split at h
      · cases h
      · split at h
        · match t with
          | [] => simp [slash] at h
          | e :: t =>
            simp only [slash] at h
            split at h
            · simp only [Option.some.injEq, Prod.mk.injEq] at h
              exact ⟨2, h.2.symm, by simp⟩
            · split at h
              · match t with
                | [] => simp [hex2] at h
                | [_] => simp [hex2] at h
                | a :: b :: t =>
                  simp only [hex2] at h
                  obtain ⟨x, _, h⟩ := Option.bind_eq_some_iff.mp h
                  obtain ⟨y, _, h⟩ := Option.bind_eq_some_iff.mp h
                  simp only [Option.some.injEq, Prod.mk.injEq] at h
                  exact ⟨4, h.2.symm, by simp⟩
              · cases h
        · simp only [Option.some.injEq, Prod.mk.injEq] at h
          exact ⟨1, h.2.symm, by simp⟩
  obtain ⟨n, hn, hl⟩ := key
  have : t.length - r.length = n := by rw [hn, List.length_drop]; omega
  rw [this]; exact hn
theorem infoByte : (Tryd.prog.info? 5).map (fun i => (i.zero, i.size, i.bytes)) = some (some (.int .u8 0), 1, 1) := by kernel_rfl

set_option maxHeartbeats 4000000 in
set_option maxRecDepth 100000 in
theorem bytes_calls (s : ByteArray) (w : World) (hs : s.size ≤ 1000000000) :
    Calls Tryd.prog 35 #[.string s] w fun e w' => e = .returned (.tuple #[.string ⟨(unpR s.data.toList).1.toArray⟩, .bool (unpR s.data.toList).2]) ∧ Below w.heap.size w w' := by
  obtain ⟨i0, hi, hz0, hz1, hz2⟩ := info_parts infoByte
  go_enter Tryd.func35, Tryd.ntmps35
  go_wp2
  go_loopw [0, 4] (fun v0 v4 wr => ∃ (t : ByteArray) (o : List UInt8), v0 = .string t ∧ t.size ≤ 1000000000 ∧ Hid (LeftT s.data.toList t.data.toList o) ∧ o.length ≤ 1000000000 ∧ Hid (o.length + t.size ≤ s.size) ∧ wr.ownsRow w.heap.size 5 1 v4 o.length (Lib.byteCells o) ∧ Below w.heap.size w wr) (fun v0 _ _ => match v0 with | .string t => t.size | _ => 0)
  case atStart => exact ⟨s, [], rfl, hs, by show LeftT _ _ _; simp [LeftT], by simp, (by simp : ([] : List UInt8).length + s.size ≤ s.size), World.ownsRow_nil _ _ _ _, Below.refl _ _⟩
  case round =>
    obtain ⟨t, o, rfl, ht, hl, ho, hsz, hown, hB⟩ := hrel
    have hW := hB.size
    by_cases h0 : 0 < t.size
    · have hz : (0 : Int) < t.size := by omega
      have hne : Hid (t.data.toList ≠ []) := (fun h => by have := size_len t; rw [h] at this; simp at this; omega : t.data.toList ≠ [])
      cases h1 : one t.data.toList with
      | none =>
        have H : Hid (onV t.data.toList = .tuple #[.int .u8 0, .int .i64 0]) := onV_of (oneN_none h1)
        have HF : Hid (unpR s.data.toList = ([], false)) := hl.out.fall h1 hne.out
        clear h1
        go_wp2_with (go_at_call 46; refine (one_calls t _ h0 ht).mono ?_; rintro e wz ⟨rfl, hb⟩; rw [H.out])
        go_ret2
        exact ⟨ret_un HF.out, bel_call hB hb⟩
      | some p =>
        obtain ⟨c, r⟩ := p
        have hlt := one_lt h1
        have hsuf := one_suffix h1
        rw [size_len] at hlt hsuf
        obtain ⟨m, hm⟩ : ∃ m, m = t.size - r.length := ⟨_, rfl⟩
        have H : Hid (onV t.data.toList = .tuple #[.int .u8 c.toNat, .int .i64 m]) := onV_of (by rw [oneN_some h1, size_len, hm])
        have HT : Hid (LeftT s.data.toList (t.extract m t.size).data.toList (o ++ [c])) := by
          show LeftT _ _ _
          rw [Lib.extract_to_end, hm, ← hsuf]
          exact hl.out.step h1
        have hm0 : (0 : Int) ≤ m := by omega
        have hm1 : (m : Int) ≤ t.size := by omega
        have hmn : ((m : Int) == 0) = false := beq_false_i (by omega)
        have hsx : (t.extract m t.size).size = t.size - m := by simp
        have hmp : 0 < m := by omega
        have HX := Lib.hid hsx
        clear h1 hsuf hm hsx
        go_wp2_with (first
          | (go_at_call 46; refine (one_calls t _ h0 ht).mono ?_; rintro e wz ⟨rfl, hb⟩; rw [H.out]; replace hown := own_below hown hb; replace hB := bel_call hB hb; replace hW := hB.size)
          | (at_builtin; refine wpList_append_own _ rfl _ _ 41 rfl w.heap.size 5 i0 (.int .u8 0) 1 1 Tryd.underlying41 hi hz0 hz1 hz2 rfl (by decide) _ _ _ rfl (hown.alloc _) ⟨wz.heap.size, 0, none⟩ 1 1 [.int .u8 c.toNat] rfl rfl ?c1 ?c2 ?c3 ?c4 ?c5 ?_))
        case c1 =>
          intro j u hj
          match j, hj with
          | 0, hj => simp at hj; subst hj; simp [Addr.add]
        case c2 => intro u hu; simp at hu; subst hu; rfl
        case c3 => unfold maxLen; omega
        case c4 => omega
        case c5 => simp; omega
        intro v' w2 hown' hgrow _
        have hB2 : Below w.heap.size w w2 := (bel_alloc hB _).grown hgrow (by simp; omega) (fun k hk => (hown.lt k hk).1)
        go_wp2
        go_roundw
        case rel => exact ⟨_, o ++ [c], rfl, by rw [HX.out]; omega, HT, by have h1 := hsz.out; simp; omega, (by have h1 := hsz.out; rw [HX.out]; simp; omega : (o ++ [c]).length + (t.extract m t.size).size ≤ s.size), by simpa [Lib.byteCells] using hown', hB2⟩
        case measure => have h1 := HX.out; simp only [Array.getD]; simp [h1]; omega
    · have hz : (t.size : Int) ≤ 0 := by omega
      have hnil : Hid (unpR s.data.toList = (o, true)) := by
        have : t.data.toList = [] := List.eq_nil_of_length_eq_zero (by rw [size_len]; omega)
        have h := hl.out
        rw [this] at h
        exact h.done
      obtain ⟨A, c, rfl⟩ := own_slice hown
      have hcv := string_of_own (P := Tryd.prog) (src := 41) (dst := 9) Tryd.underlying41 Tryd.underlying5 Tryd.underlying9 hown
      go_wp2
      go_ret2
      exact ⟨ret_un hnil.out, hB⟩
end Go.Proofs.YtibgefampokfkaaDoor.Sc
