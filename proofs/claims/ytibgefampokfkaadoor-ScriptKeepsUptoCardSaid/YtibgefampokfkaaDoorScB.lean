/- script.unpiece: walked. -/
import Derived.Test.YtibgefampokfkaaDoorScA
namespace Go.Proofs.YtibgefampokfkaaDoor.Sc
open Go Go.RowKit
set_option linter.unusedVariables false

def hxi (c : UInt8) : Int := match hx c with
  | some x => (x : Int)
  | none => -1
theorem hxi_some {c : UInt8} {x : Nat} (h : hx c = some x) : hxi c = x := by unfold hxi; rw [h]
theorem hxi_none {c : UInt8} (h : hx c = none) : hxi c = -1 := by unfold hxi; rw [h]
theorem hex_calls (c : UInt8) (w : World) : Calls Tryd.prog 45 #[.string ⟨#[48, 49, 50, 51, 52, 53, 54, 55, 56, 57, 97, 98, 99, 100, 101, 102]⟩, .int .u8 c.toNat] w fun e w' => e = .returned (.int .i64 (hxi c)) ∧ w' = w :=
  (Tryd.strings_IndexByte _ c.toNat w).mono (by
    rintro e w' ⟨rfl, rfl⟩
    refine ⟨?_, rfl⟩
    have h1 : ((c.toNat : Int).toNat).toUInt8 = c := by simp
    have h2 : Lib.indexByte hexd c = hxi c := hx_index c
    have h3 : ((⟨#[48, 49, 50, 51, 52, 53, 54, 55, 56, 57, 97, 98, 99, 100, 101, 102]⟩ : ByteArray).data.toList) = hexd := rfl
    rw [h1, h3, h2])
theorem drop_cons (s : ByteArray) (k : Nat) (h : k < s.size) : s.data.toList.drop k = s[k] :: s.data.toList.drop (k + 1) := by
  rw [List.drop_eq_getElem_cons (by simpa using h)]; rfl
/-- What is left to read, and what has come. -/
def Left (l : List UInt8) (i : Nat) (o : List UInt8) : Prop := unpiece l = (unpiece (l.drop i)).map (o ++ ·) ∧ o.length ≤ i
theorem Left.start (l : List UInt8) : Left l 0 [] := ⟨by simp, by simp⟩
theorem Left.done {l : List UInt8} {i : Nat} {o : List UInt8} (h : Left l i o) (hi : l.length ≤ i) : unpR l = (o, true) := by
  have := h.1
  rw [List.drop_of_length_le hi, unpiece_nil] at this
  simp [unpR, this]
theorem Left.fall {l : List UInt8} {i : Nat} {o t : List UInt8} (h : Left l i o) (hd : l.drop i = t) (h1 : one t = none) (hn : t ≠ []) : unpR l = ([], false) := by
  have := h.1
  obtain ⟨c, r, rfl⟩ := List.exists_cons_of_ne_nil hn
  rw [hd, unpiece_cons, h1] at this
  simp [unpR, this]
theorem Left.step {l : List UInt8} {i j : Nat} {o t r : List UInt8} {c : UInt8} (h : Left l i o) (hd : l.drop i = t) (h1 : one t = some (c, r)) (hr : l.drop j = r) (hij : i < j) : Left l j (o ++ [c]) := by
  refine ⟨?_, by have := h.2; simp; omega⟩
  have := h.1
  obtain ⟨a, r', rfl⟩ := List.exists_cons_of_ne_nil (show t ≠ [] from by rintro rfl; simp [one] at h1)
  rw [hd, unpiece_cons, h1] at this
  rw [this, hr]
  simp [Option.map_map, Function.comp_def]

theorem isb_drewN {B b : Nat} {l : List Value} {w : World} (h : Lib.IsBuilder 51 5 B b l w) (n : Nat) : Lib.IsBuilder 51 5 B b l (w.drewN n) := by
  rcases h with ⟨h1, v, h2, h3, h4⟩ | ⟨h1, v, h2, h3, h4⟩
  · exact .inl ⟨h1, v, h2, h3, h4⟩
  · exact .inr ⟨h1, v, h2, h3, h4⟩
theorem bel_drewN {B : Nat} {a w : World} (h : Below B a w) (n : Nat) : Below B a (w.drewN n) := ⟨h.os, h.tape, h.output, h.size, h.block⟩
theorem ret_un {l : List UInt8} {a : List UInt8} {b : Bool} (h : unpR l = (a, b)) : Ending.returned (.tuple #[.string ⟨a.toArray⟩, .bool b]) = .returned (.tuple #[.string ⟨(unpR l).1.toArray⟩, .bool (unpR l).2]) := by rw [h]

theorem beq_u8 (c n : UInt8) : ((c.toNat : Int) == (n.toNat : Int)) = true ↔ c = n := by rw [beq_iff_eq, ← UInt8.toNat_inj]; omega
theorem one_of (c : UInt8) (r : List UInt8) : one (c :: r) = if (c.toNat : Int) < 32 then none else if 126 < (c.toNat : Int) then none else if ((c.toNat : Int) != 92) = true then some (c, r) else slash r := by
  have e1 := beq_u8 c 92
  have e6 : (c < 32 ∨ 126 < c) ↔ ((c.toNat : Int) < 32 ∨ 126 < (c.toNat : Int)) := by rw [UInt8.lt_iff_toNat_lt, UInt8.lt_iff_toNat_lt]; simp; omega
  simp only [UInt8.reduceToNat, Int.cast_ofNat_Int] at e1
  simp only [one, e6, bne_iff_ne, ne_eq, ← beq_iff_eq (a := (c.toNat : Int)), e1]
  by_cases h1 : (c.toNat : Int) < 32
  · simp [h1]
  · by_cases h2 : 126 < (c.toNat : Int)
    · simp [h2]
    · simp only [h1, h2, or_self, if_false]
      by_cases h3 : c = 92 <;> simp [h3]
theorem slash_of (c : UInt8) (r : List UInt8) : slash (c :: r) = if ((c.toNat : Int) == 92) = true then some (92, r) else if ((c.toNat : Int) == 110) = true then some (10, r) else if ((c.toNat : Int) == 114) = true then some (13, r)
    else if ((c.toNat : Int) == 116) = true then some (9, r) else if ((c.toNat : Int) == 101) = true then some (27, r) else if ((c.toNat : Int) == 120) = true then hex2 r else none := by
  have e1 := beq_u8 c 92; have e2 := beq_u8 c 110; have e3 := beq_u8 c 114; have e4 := beq_u8 c 116; have e5 := beq_u8 c 101; have e6 := beq_u8 c 120
  simp only [UInt8.reduceToNat, Int.cast_ofNat_Int] at e1 e2 e3 e4 e5 e6
  simp only [slash, esc, e1, e2, e3, e4, e5, e6]
  by_cases h1 : c = 92
  · simp [h1]
  by_cases h2 : c = 110
  · simp [h2]
  by_cases h3 : c = 114
  · simp [h3]
  by_cases h4 : c = 116
  · simp [h4]
  by_cases h5 : c = 101
  · simp [h5]
  simp [h1, h2, h3, h4, h5]
theorem hex2_some {a b : UInt8} {x y : Nat} (r : List UInt8) (h1 : hx a = some x) (h2 : hx b = some y) : hex2 (a :: b :: r) = some (UInt8.ofNat (16 * x + y), r) := by simp [hex2, h1, h2]
theorem hex2_none1 {a : UInt8} (b : UInt8) (r : List UInt8) (h1 : hx a = none) : hex2 (a :: b :: r) = none := by simp [hex2, h1]
theorem hex2_none2 (a : UInt8) {b : UInt8} (r : List UInt8) (h1 : hx b = none) : hex2 (a :: b :: r) = none := by simp only [hex2, h1, Option.bind_none]; cases hx a <;> rfl
theorem hex2_short {r : List UInt8} (h : r.length < 2) : hex2 r = none := by
  match r, h with
  | [], _ => rfl
  | [_], _ => rfl
  | _ :: _ :: _, h => simp at h; omega

theorem one_fall {c : UInt8} (r : List UInt8) (h : (c.toNat : Int) < 32 ∨ 126 < (c.toNat : Int)) : one (c :: r) = none := by
  rw [one_of]; rcases h with h | h
  · rw [if_pos h]
  · rw [if_neg (by omega), if_pos h]
theorem one_ok {c : UInt8} (r : List UInt8) (h1 : 32 ≤ (c.toNat : Int)) (h2 : (c.toNat : Int) ≤ 126) (h : ((c.toNat : Int) != 92) = true) : one (c :: r) = some (c, r) := by
  rw [one_of, if_neg (by omega), if_neg (by omega), if_pos h]
theorem one_sl {c : UInt8} (r : List UInt8) (h1 : 32 ≤ (c.toNat : Int)) (h2 : (c.toNat : Int) ≤ 126) (h : ((c.toNat : Int) != 92) = false) : one (c :: r) = slash r := by
  rw [one_of, if_neg (by omega), if_neg (by omega), if_neg (by rw [h]; simp)]
theorem ne_of_beq {n m : Int} (h : (n == m) = false) : ¬ (n == m) = true := by rw [h]; simp
theorem sl92 {d : UInt8} (r : List UInt8) (h : ((d.toNat : Int) == 92) = true) : slash (d :: r) = some (92, r) := by rw [slash_of, if_pos h]
theorem sl110 {d : UInt8} (r : List UInt8) (h1 : ((d.toNat : Int) == 92) = false) (h : ((d.toNat : Int) == 110) = true) : slash (d :: r) = some (10, r) := by rw [slash_of, if_neg (ne_of_beq h1), if_pos h]
theorem sl114 {d : UInt8} (r : List UInt8) (h1 : ((d.toNat : Int) == 92) = false) (h2 : ((d.toNat : Int) == 110) = false) (h : ((d.toNat : Int) == 114) = true) : slash (d :: r) = some (13, r) := by
  rw [slash_of, if_neg (ne_of_beq h1), if_neg (ne_of_beq h2), if_pos h]
theorem sl116 {d : UInt8} (r : List UInt8) (h1 : ((d.toNat : Int) == 92) = false) (h2 : ((d.toNat : Int) == 110) = false) (h3 : ((d.toNat : Int) == 114) = false) (h : ((d.toNat : Int) == 116) = true) : slash (d :: r) = some (9, r) := by
  rw [slash_of, if_neg (ne_of_beq h1), if_neg (ne_of_beq h2), if_neg (ne_of_beq h3), if_pos h]
theorem sl101 {d : UInt8} (r : List UInt8) (h1 : ((d.toNat : Int) == 92) = false) (h2 : ((d.toNat : Int) == 110) = false) (h3 : ((d.toNat : Int) == 114) = false) (h4 : ((d.toNat : Int) == 116) = false) (h : ((d.toNat : Int) == 101) = true) : slash (d :: r) = some (27, r) := by
  rw [slash_of, if_neg (ne_of_beq h1), if_neg (ne_of_beq h2), if_neg (ne_of_beq h3), if_neg (ne_of_beq h4), if_pos h]
theorem sl120 {d : UInt8} (r : List UInt8) (h1 : ((d.toNat : Int) == 92) = false) (h2 : ((d.toNat : Int) == 110) = false) (h3 : ((d.toNat : Int) == 114) = false) (h4 : ((d.toNat : Int) == 116) = false) (h5 : ((d.toNat : Int) == 101) = false) (h : ((d.toNat : Int) == 120) = true) : slash (d :: r) = hex2 r := by
  rw [slash_of, if_neg (ne_of_beq h1), if_neg (ne_of_beq h2), if_neg (ne_of_beq h3), if_neg (ne_of_beq h4), if_neg (ne_of_beq h5), if_pos h]
theorem slno {d : UInt8} (r : List UInt8) (h1 : ((d.toNat : Int) == 92) = false) (h2 : ((d.toNat : Int) == 110) = false) (h3 : ((d.toNat : Int) == 114) = false) (h4 : ((d.toNat : Int) == 116) = false) (h5 : ((d.toNat : Int) == 101) = false) (h : ((d.toNat : Int) == 120) = false) : slash (d :: r) = none := by
  rw [slash_of, if_neg (ne_of_beq h1), if_neg (ne_of_beq h2), if_neg (ne_of_beq h3), if_neg (ne_of_beq h4), if_neg (ne_of_beq h5), if_neg (ne_of_beq h)]

set_option maxHeartbeats 4000000 in
set_option maxRecDepth 100000 in
theorem unpiece_calls (s : ByteArray) (w : World) (hs : s.size ≤ 1000000000) :
    Calls Tryd.prog 33 #[.string s] w fun e w' => e = .returned (.tuple #[.string ⟨(unpR s.data.toList).1.toArray⟩, .bool (unpR s.data.toList).2]) ∧ Below w.heap.size w w' := by
  go_enter Tryd.func33, Tryd.ntmps33
  go_wp2
  go_loopw [5] (fun v wr => ∃ (i : Nat) (o : List UInt8), v = .int .i64 i ∧ i ≤ s.size ∧ Hid (Left s.data.toList i o) ∧ o.length ≤ i ∧ Lib.IsBuilder 51 5 w.heap.size w.heap.size (Lib.byteCells o) wr ∧ Below w.heap.size w wr) (fun v _ => s.size - (intOf v).toNat)
  case atStart => exact ⟨0, [], rfl, Nat.zero_le _, Left.start _, by simp, Bld.fresh w _ (Nat.le_refl _), (Below.refl _ _).alloc (Nat.le_refl _) _⟩
  case round =>
    obtain ⟨i, o, rfl, hk, hl, ho, hb, hB⟩ := hrel
    have hW := hB.size
    by_cases hlt : i < s.size
    · have hc : (s[i].toNat : Int) < 256 := by have := s[i].toNat_lt; omega
      have D0 : Hid (s.data.toList.drop i = s[i] :: s.data.toList.drop (i + 1)) := drop_cons s i hlt
      have hlen : s.data.toList.length = s.size := by simp
      have hLen := Lib.hid hlen
      clear hlen
      by_cases h1 : i + 1 < s.size
      · have hd1 : (s[i + 1].toNat : Int) < 256 := by have := s[i + 1].toNat_lt; omega
        have D1 : Hid (s.data.toList.drop (i + 1) = s[i + 1] :: s.data.toList.drop (i + 2)) := drop_cons s (i + 1) h1
        have q1 : ((i : Int) + 1 == (s.size : Int)) = false := by rw [beq_eq_false_iff_ne]; omega
        by_cases h2 : i + 3 < s.size
        · have D2 : Hid (s.data.toList.drop (i + 2) = s[i + 2] :: s.data.toList.drop (i + 3)) := drop_cons s (i + 2) (by omega)
          have D3 : Hid (s.data.toList.drop (i + 3) = s[i + 3] :: s.data.toList.drop (i + 4)) := drop_cons s (i + 3) (by omega)
          have w1 : IntKind.i64.wrap ((i : Int) + 1 + 1) = (i : Int) + 1 + 1 := by rw [IntKind.wrap_i64]; omega
          have w2 : IntKind.i64.wrap ((i : Int) + 1 + 2) = (i : Int) + 1 + 2 := by rw [IntKind.wrap_i64]; omega
          have n1 : ((i : Int) + 1 + 1).toNat = i + 2 := by omega
          have n2 : ((i : Int) + 1 + 2).toNat = i + 3 := by omega
          have b1 : 0 ≤ (i : Int) + 1 + 1 := by omega
          have b2 : 0 ≤ (i : Int) + 1 + 2 := by omega
          have b3 : (i : Int) + 1 + 1 < (s.size : Int) := by omega
          have b4 : (i : Int) + 1 + 2 < (s.size : Int) := by omega
          rcases hx2 : hx s[i + 2] with _ | x
          · have e1 := hxi_none hx2
            replace hx2 := Lib.hid hx2
            go_wp2_with (first
              | (go_at_call 26; refine (Bld.byte_i _ _ _ _ _ hb (by omega) (by omega) (by omega) (by assumption)).mono ?_; rintro e wz ⟨rfl, hb', hB'⟩; replace hB := hB.trans hB'; replace hW := hB.size; replace hb := hb'; clear hb' hB'))
            all_goals first
              | (go_ret2; refine ⟨ret_un (hl.out.fall D0.out ?_ (by simp)), hB⟩; exact one_fall _ (by omega))
              | (refine ⟨⟨i + 1, o ++ [s[i]], by go_num, by omega, hl.out.step D0.out (one_ok _ (by omega) (by omega) (by assumption)) rfl (by omega), by simp; omega, by simpa using hb, hB⟩, by simp [intOf]; omega⟩)
              | (refine ⟨⟨i + 2, o ++ [92], by go_num, by omega, hl.out.step (D0.out.trans (by rw [D1.out])) ((one_sl _ (by omega) (by omega) (by assumption)).trans (sl92 _ (by assumption))) rfl (by omega), by simp; omega, by simpa using hb, hB⟩, by simp [intOf]; omega⟩)
              | (refine ⟨⟨i + 2, o ++ [10], by go_num, by omega, hl.out.step (D0.out.trans (by rw [D1.out])) ((one_sl _ (by omega) (by omega) (by assumption)).trans (sl110 _ (by assumption) (by assumption))) rfl (by omega), by simp; omega, by simpa using hb, hB⟩, by simp [intOf]; omega⟩)
              | (refine ⟨⟨i + 2, o ++ [13], by go_num, by omega, hl.out.step (D0.out.trans (by rw [D1.out])) ((one_sl _ (by omega) (by omega) (by assumption)).trans (sl114 _ (by assumption) (by assumption) (by assumption))) rfl (by omega), by simp; omega, by simpa using hb, hB⟩, by simp [intOf]; omega⟩)
              | (refine ⟨⟨i + 2, o ++ [9], by go_num, by omega, hl.out.step (D0.out.trans (by rw [D1.out])) ((one_sl _ (by omega) (by omega) (by assumption)).trans (sl116 _ (by assumption) (by assumption) (by assumption) (by assumption))) rfl (by omega), by simp; omega, by simpa using hb, hB⟩, by simp [intOf]; omega⟩)
              | (refine ⟨⟨i + 2, o ++ [27], by go_num, by omega, hl.out.step (D0.out.trans (by rw [D1.out])) ((one_sl _ (by omega) (by omega) (by assumption)).trans (sl101 _ (by assumption) (by assumption) (by assumption) (by assumption) (by assumption))) rfl (by omega), by simp; omega, by simpa using hb, hB⟩, by simp [intOf]; omega⟩)
              | (go_ret2; refine ⟨ret_un (hl.out.fall (D0.out.trans (by rw [D1.out])) ((one_sl _ (by omega) (by omega) (by assumption)).trans (slno _ (by assumption) (by assumption) (by assumption) (by assumption) (by assumption) (by assumption))) (by simp)), hB⟩)
              | (go_quiet ((go_at_call 45; exact Calls.quiet_of_same (hex_calls _ _))); go_wp2_with (go_at_call 26; refine (Bld.byte_i _ _ _ _ _ (isb_drewN hb _) (by omega) (by omega) (by omega) hW).mono ?_; rintro e wz ⟨rfl, hb', hB'⟩; replace hB := (bel_drewN hB _).trans hB'; replace hW := hB.size; replace hb := hb'; clear hb' hB'); (go_ret2; refine ⟨ret_un (hl.out.fall (D0.out.trans (by rw [D1.out, D2.out, D3.out])) ((one_sl _ (by omega) (by omega) (by assumption)).trans ((sl120 _ (by assumption) (by assumption) (by assumption) (by assumption) (by assumption) (by assumption)).trans (hex2_none1 _ _ hx2.out))) (by simp)), bel_drewN hB _⟩))
          · have e1 := hxi_some hx2
            have x16 := hx_lt hx2
            replace hx2 := Lib.hid hx2
            rcases hy2 : hx s[i + 3] with _ | y
            · have e2 := hxi_none hy2
              replace hy2 := Lib.hid hy2
              go_wp2_with (first
                | (go_at_call 26; refine (Bld.byte_i _ _ _ _ _ hb (by omega) (by omega) (by omega) (by assumption)).mono ?_; rintro e wz ⟨rfl, hb', hB'⟩; replace hB := hB.trans hB'; replace hW := hB.size; replace hb := hb'; clear hb' hB'))
              all_goals first
                | (go_ret2; refine ⟨ret_un (hl.out.fall D0.out ?_ (by simp)), hB⟩; exact one_fall _ (by omega))
                | (refine ⟨⟨i + 1, o ++ [s[i]], by go_num, by omega, hl.out.step D0.out (one_ok _ (by omega) (by omega) (by assumption)) rfl (by omega), by simp; omega, by simpa using hb, hB⟩, by simp [intOf]; omega⟩)
                | (refine ⟨⟨i + 2, o ++ [92], by go_num, by omega, hl.out.step (D0.out.trans (by rw [D1.out])) ((one_sl _ (by omega) (by omega) (by assumption)).trans (sl92 _ (by assumption))) rfl (by omega), by simp; omega, by simpa using hb, hB⟩, by simp [intOf]; omega⟩)
                | (refine ⟨⟨i + 2, o ++ [10], by go_num, by omega, hl.out.step (D0.out.trans (by rw [D1.out])) ((one_sl _ (by omega) (by omega) (by assumption)).trans (sl110 _ (by assumption) (by assumption))) rfl (by omega), by simp; omega, by simpa using hb, hB⟩, by simp [intOf]; omega⟩)
                | (refine ⟨⟨i + 2, o ++ [13], by go_num, by omega, hl.out.step (D0.out.trans (by rw [D1.out])) ((one_sl _ (by omega) (by omega) (by assumption)).trans (sl114 _ (by assumption) (by assumption) (by assumption))) rfl (by omega), by simp; omega, by simpa using hb, hB⟩, by simp [intOf]; omega⟩)
                | (refine ⟨⟨i + 2, o ++ [9], by go_num, by omega, hl.out.step (D0.out.trans (by rw [D1.out])) ((one_sl _ (by omega) (by omega) (by assumption)).trans (sl116 _ (by assumption) (by assumption) (by assumption) (by assumption))) rfl (by omega), by simp; omega, by simpa using hb, hB⟩, by simp [intOf]; omega⟩)
                | (refine ⟨⟨i + 2, o ++ [27], by go_num, by omega, hl.out.step (D0.out.trans (by rw [D1.out])) ((one_sl _ (by omega) (by omega) (by assumption)).trans (sl101 _ (by assumption) (by assumption) (by assumption) (by assumption) (by assumption))) rfl (by omega), by simp; omega, by simpa using hb, hB⟩, by simp [intOf]; omega⟩)
                | (go_ret2; refine ⟨ret_un (hl.out.fall (D0.out.trans (by rw [D1.out])) ((one_sl _ (by omega) (by omega) (by assumption)).trans (slno _ (by assumption) (by assumption) (by assumption) (by assumption) (by assumption) (by assumption))) (by simp)), hB⟩)
                | (go_quiet ((go_at_call 45; exact Calls.quiet_of_same (hex_calls _ _))); go_wp2_with (go_at_call 26; refine (Bld.byte_i _ _ _ _ _ (isb_drewN hb _) (by omega) (by omega) (by omega) hW).mono ?_; rintro e wz ⟨rfl, hb', hB'⟩; replace hB := (bel_drewN hB _).trans hB'; replace hW := hB.size; replace hb := hb'; clear hb' hB'); (go_ret2; refine ⟨ret_un (hl.out.fall (D0.out.trans (by rw [D1.out, D2.out, D3.out])) ((one_sl _ (by omega) (by omega) (by assumption)).trans ((sl120 _ (by assumption) (by assumption) (by assumption) (by assumption) (by assumption) (by assumption)).trans (hex2_none2 _ _ hy2.out))) (by simp)), bel_drewN hB _⟩))
            · have e2 := hxi_some hy2
              have y16 := hx_lt hy2
              replace hy2 := Lib.hid hy2
              go_wp2_with (first
                | (go_at_call 26; refine (Bld.byte_i _ _ _ _ _ hb (by omega) (by omega) (by omega) (by assumption)).mono ?_; rintro e wz ⟨rfl, hb', hB'⟩; replace hB := hB.trans hB'; replace hW := hB.size; replace hb := hb'; clear hb' hB'))
              all_goals first
                | (go_ret2; refine ⟨ret_un (hl.out.fall D0.out ?_ (by simp)), hB⟩; exact one_fall _ (by omega))
                | (refine ⟨⟨i + 1, o ++ [s[i]], by go_num, by omega, hl.out.step D0.out (one_ok _ (by omega) (by omega) (by assumption)) rfl (by omega), by simp; omega, by simpa using hb, hB⟩, by simp [intOf]; omega⟩)
                | (refine ⟨⟨i + 2, o ++ [92], by go_num, by omega, hl.out.step (D0.out.trans (by rw [D1.out])) ((one_sl _ (by omega) (by omega) (by assumption)).trans (sl92 _ (by assumption))) rfl (by omega), by simp; omega, by simpa using hb, hB⟩, by simp [intOf]; omega⟩)
                | (refine ⟨⟨i + 2, o ++ [10], by go_num, by omega, hl.out.step (D0.out.trans (by rw [D1.out])) ((one_sl _ (by omega) (by omega) (by assumption)).trans (sl110 _ (by assumption) (by assumption))) rfl (by omega), by simp; omega, by simpa using hb, hB⟩, by simp [intOf]; omega⟩)
                | (refine ⟨⟨i + 2, o ++ [13], by go_num, by omega, hl.out.step (D0.out.trans (by rw [D1.out])) ((one_sl _ (by omega) (by omega) (by assumption)).trans (sl114 _ (by assumption) (by assumption) (by assumption))) rfl (by omega), by simp; omega, by simpa using hb, hB⟩, by simp [intOf]; omega⟩)
                | (refine ⟨⟨i + 2, o ++ [9], by go_num, by omega, hl.out.step (D0.out.trans (by rw [D1.out])) ((one_sl _ (by omega) (by omega) (by assumption)).trans (sl116 _ (by assumption) (by assumption) (by assumption) (by assumption))) rfl (by omega), by simp; omega, by simpa using hb, hB⟩, by simp [intOf]; omega⟩)
                | (refine ⟨⟨i + 2, o ++ [27], by go_num, by omega, hl.out.step (D0.out.trans (by rw [D1.out])) ((one_sl _ (by omega) (by omega) (by assumption)).trans (sl101 _ (by assumption) (by assumption) (by assumption) (by assumption) (by assumption))) rfl (by omega), by simp; omega, by simpa using hb, hB⟩, by simp [intOf]; omega⟩)
                | (go_ret2; refine ⟨ret_un (hl.out.fall (D0.out.trans (by rw [D1.out])) ((one_sl _ (by omega) (by omega) (by assumption)).trans (slno _ (by assumption) (by assumption) (by assumption) (by assumption) (by assumption) (by assumption))) (by simp)), hB⟩)
                | (go_quiet ((go_at_call 45; exact Calls.quiet_of_same (hex_calls _ _))); go_wp2_with (go_at_call 26; refine (Bld.byte_i _ _ _ _ _ (isb_drewN hb _) (by omega) (by omega) (by omega) hW).mono ?_; rintro e wz ⟨rfl, hb', hB'⟩; replace hB := (bel_drewN hB _).trans hB'; replace hW := hB.size; replace hb := hb'; clear hb' hB'); (refine ⟨⟨i + 4, o ++ [UInt8.ofNat (16 * x + y)], by go_num, by omega, hl.out.step (D0.out.trans (by rw [D1.out, D2.out, D3.out])) ((one_sl _ (by omega) (by omega) (by assumption)).trans ((sl120 _ (by assumption) (by assumption) (by assumption) (by assumption) (by assumption) (by assumption)).trans (hex2_some _ hx2.out hy2.out))) rfl (by omega), by simp; omega, ?_, hB⟩, by simp [intOf]; omega⟩; rw [show ((16 : Int) * x + y).toNat = 16 * x + y from by omega] at hb; exact hb))
        · go_wp2_with (first
            | (go_at_call 26; refine (Bld.byte_i _ _ _ _ _ hb (by omega) (by omega) (by omega) (by assumption)).mono ?_; rintro e wz ⟨rfl, hb', hB'⟩; replace hB := hB.trans hB'; replace hW := hB.size; replace hb := hb'; clear hb' hB'))
          all_goals first
            | (go_ret2; refine ⟨ret_un (hl.out.fall D0.out ?_ (by simp)), hB⟩; exact one_fall _ (by omega))
            | (refine ⟨⟨i + 1, o ++ [s[i]], by go_num, by omega, hl.out.step D0.out (one_ok _ (by omega) (by omega) (by assumption)) rfl (by omega), by simp; omega, by simpa using hb, hB⟩, by simp [intOf]; omega⟩)
            | (refine ⟨⟨i + 2, o ++ [92], by go_num, by omega, hl.out.step (D0.out.trans (by rw [D1.out])) ((one_sl _ (by omega) (by omega) (by assumption)).trans (sl92 _ (by assumption))) rfl (by omega), by simp; omega, by simpa using hb, hB⟩, by simp [intOf]; omega⟩)
            | (refine ⟨⟨i + 2, o ++ [10], by go_num, by omega, hl.out.step (D0.out.trans (by rw [D1.out])) ((one_sl _ (by omega) (by omega) (by assumption)).trans (sl110 _ (by assumption) (by assumption))) rfl (by omega), by simp; omega, by simpa using hb, hB⟩, by simp [intOf]; omega⟩)
            | (refine ⟨⟨i + 2, o ++ [13], by go_num, by omega, hl.out.step (D0.out.trans (by rw [D1.out])) ((one_sl _ (by omega) (by omega) (by assumption)).trans (sl114 _ (by assumption) (by assumption) (by assumption))) rfl (by omega), by simp; omega, by simpa using hb, hB⟩, by simp [intOf]; omega⟩)
            | (refine ⟨⟨i + 2, o ++ [9], by go_num, by omega, hl.out.step (D0.out.trans (by rw [D1.out])) ((one_sl _ (by omega) (by omega) (by assumption)).trans (sl116 _ (by assumption) (by assumption) (by assumption) (by assumption))) rfl (by omega), by simp; omega, by simpa using hb, hB⟩, by simp [intOf]; omega⟩)
            | (refine ⟨⟨i + 2, o ++ [27], by go_num, by omega, hl.out.step (D0.out.trans (by rw [D1.out])) ((one_sl _ (by omega) (by omega) (by assumption)).trans (sl101 _ (by assumption) (by assumption) (by assumption) (by assumption) (by assumption))) rfl (by omega), by simp; omega, by simpa using hb, hB⟩, by simp [intOf]; omega⟩)
            | (go_ret2; refine ⟨ret_un (hl.out.fall (D0.out.trans (by rw [D1.out])) ((one_sl _ (by omega) (by omega) (by assumption)).trans (slno _ (by assumption) (by assumption) (by assumption) (by assumption) (by assumption) (by assumption))) (by simp)), hB⟩)
            | (go_ret2; refine ⟨ret_un (hl.out.fall (D0.out.trans (by rw [D1.out])) ((one_sl _ (by omega) (by omega) (by assumption)).trans ((sl120 _ (by assumption) (by assumption) (by assumption) (by assumption) (by assumption) (by assumption)).trans (hex2_short (by rw [List.length_drop, hLen.out]; omega)))) (by simp)), hB⟩)
      · have q1 : ((i : Int) + 1 == (s.size : Int)) = true := by rw [beq_iff_eq]; omega
        go_wp2_with (first
          | (go_at_call 26; refine (Bld.byte_i _ _ _ _ _ hb (by omega) (by omega) (by omega) (by assumption)).mono ?_; rintro e wz ⟨rfl, hb', hB'⟩; replace hB := hB.trans hB'; replace hW := hB.size; replace hb := hb'; clear hb' hB'))
        all_goals first
          | (go_ret2; refine ⟨ret_un (hl.out.fall D0.out ?_ (by simp)), hB⟩; exact one_fall _ (by omega))
          | (refine ⟨⟨i + 1, o ++ [s[i]], by go_num, by omega, hl.out.step D0.out (one_ok _ (by omega) (by omega) (by assumption)) rfl (by omega), by simp; omega, by simpa using hb, hB⟩, by simp [intOf]; omega⟩)
          | (go_ret2; refine ⟨ret_un (hl.out.fall D0.out ((one_sl _ (by omega) (by omega) (by assumption)).trans ?_) (by simp)), hB⟩; rw [List.drop_of_length_le (by rw [hLen.out]; omega)]; rfl)
    · go_wp2_with (go_at_call 27; refine (Tryd.Builder_String_any _ _ _ _ hb (by assumption)).mono ?_; rintro e wz ⟨rfl, hB'⟩; replace hB := hB.trans hB')
      go_ret2
      exact ⟨ret_un (hl.out.done (by simp; omega)), hB⟩
end Go.Proofs.YtibgefampokfkaaDoor.Sc
