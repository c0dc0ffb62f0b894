/- The first unit of a text, in the library's own words: plain. -/
import Derived.Test.YtjjilhfebkeoeaaDoorKyQ
import Derived.Lib.DecodeNEq
import Derived.Shelf.Unicode.DecodeSlow
namespace Go.Proofs.YtjjilhfebkeoeaaDoor.Ky
set_option linter.unusedVariables false
open Go.Lib

theorem lead_T (n : Nat) : lead n = if firstT n < 240 then (firstT n % 8, accLo (firstT n / 16), accHi (firstT n / 16)) else (0, 0, 0) := by
  rcases Nat.lt_or_ge n 194 with h | h
  · have e : lead n = (0, 0, 0) := by unfold lead; rw [if_pos h]
    have f : ¬ firstT n < 240 := by
      unfold firstT
      split
      · omega
      · first | omega | (rw [if_pos (by omega)]; omega)
    rw [e, if_neg f]
  rcases Nat.lt_or_ge n 224 with h2 | h2
  · rw [firstT_C2 ⟨h, h2⟩]; unfold lead; rw [if_neg (by omega), if_pos h2]; rfl
  by_cases h3 : n = 224
  · subst h3; rfl
  by_cases h4 : n = 237
  · subst h4; rfl
  rcases Nat.lt_or_ge n 240 with h5 | h5
  · rw [firstT_E1 (by omega)]; unfold lead; rw [if_neg (by omega), if_neg (by omega), if_neg h3, if_neg h4, if_pos h5]; rfl
  by_cases h6 : n = 240
  · subst h6; rfl
  rcases Nat.lt_or_ge n 244 with h7 | h7
  · rw [firstT_F1 (by omega)]; unfold lead; rw [if_neg (by omega), if_neg (by omega), if_neg h3, if_neg h4, if_neg (by omega), if_neg h6, if_pos h7]; rfl
  by_cases h8 : n = 244
  · subst h8; rfl
  · have e : lead n = (0, 0, 0) := by unfold lead; rw [if_neg (by omega), if_neg (by omega), if_neg h3, if_neg h4, if_neg (by omega), if_neg h6, if_neg (by omega), if_neg h8]
    have f : firstT n = 241 := by
      unfold firstT
      rw [if_neg (by omega), if_neg (by omega), if_neg (by omega), if_neg h3, if_neg (by omega), if_neg h4, if_neg (by omega), if_neg h6, if_neg (by omega), if_neg h8]
    rw [e, f]; rfl
theorem sec_iff (a b : UInt8) : sec a b = true ↔ ((lead a.toNat).2.1 ≤ b.toNat ∧ b.toNat ≤ (lead a.toNat).2.2) := by unfold sec; simp
theorem cont_iff (b : UInt8) : cont b = true ↔ (128 ≤ b.toNat ∧ b.toNat ≤ 191) := by unfold cont; simp
/-- What the library answers, off the text's bytes. -/
def dec (l : List UInt8) : Nat × Nat := decodeN l.length (l.getD 0 0).toNat (l.getD 1 0).toNat (l.getD 2 0).toNat (l.getD 3 0).toNat
theorem get_bang (s : ByteArray) (k : Nat) : s.get! k = s.data.toList.getD k 0 := by
  cases s with
  | mk d =>
    show d[k]! = _
    rw [List.getD_eq_getElem?_getD, Array.getElem?_toList]
    simp [getElem!_def]
    cases d[k]? <;> rfl
theorem dec_go (s : ByteArray) (h : 0 < s.size) : Lib.decodeGo s = dec s.data.toList := by
  unfold Lib.decodeGo dec
  rw [if_neg (by omega), decode_at, get_bang, get_bang, get_bang, get_bang]
  simp
theorem dec_fst (a : UInt8) (r : List UInt8) : ((fst (a :: r)).1 < 0 ∧ dec (a :: r) = (65533, 1)) ∨ (0 ≤ (fst (a :: r)).1 ∧ dec (a :: r) = ((fst (a :: r)).1.toNat, (fst (a :: r)).2) ∧ ((fst (a :: r)).1 = 65533 → (fst (a :: r)).2 ≠ 1)) := by
  have hlt : ∀ x : UInt8, x.toNat < 256 := fun x => x.toNat_lt
  by_cases h : a.toNat < 128
  · right
    rw [fst_ascii r h]
    refine ⟨by simp, ?_, by simp; omega⟩
    unfold dec
    simp only [List.getD_cons_zero, decodeN]
    rw [if_pos h]; simp
  by_cases hx : firstT a.toNat < 240
  · have hl := lead_T a.toNat
    rw [if_pos hx] at hl
    have hd : dec (a :: r) = slowN (r.length + 1) a.toNat (r.getD 0 0).toNat (r.getD 1 0).toNat (r.getD 2 0).toNat (lead a.toNat).1 (lead a.toNat).2.1 (lead a.toNat).2.2 := by
      rw [hl, slow_eq _ _ _ _ _ (by omega) (hlt _) (hlt _) (hlt _) hx]; rfl
    rw [hd]
    unfold slowN
    rcases lead_cases a.toNat with h0 | h0 | h0 | h0
    · rw [hl] at h0
      rcases firstT_cases a.toNat with g | g | g | g | g | g | g | g | g <;> rw [g] at h0 hx <;> simp at h0 hx
    · rw [h0]
      match r with
      | [] => left; rw [fst_s1 (.inl h0)]; exact ⟨by decide, by rw [if_pos (by simp)]⟩
      | b :: r =>
        rw [fst_two b r h0, if_neg (show ¬ (b :: r).length + 1 < 2 from by simp)]
        simp only [List.getD_cons_zero]
        by_cases hs : sec a b = true
        · have hs' := (sec_iff a b).mp hs
          right; rw [if_pos hs, if_neg (show ¬ (b.toNat < (lead a.toNat).2.1 ∨ (lead a.toNat).2.2 < b.toNat) from by omega), if_pos (show 2 ≤ 2 from by decide)]
          refine ⟨by simp, by simp only [two, Int.toNat_natCast], by simp⟩
        · have hs' := (not_congr (sec_iff a b)).mp hs
          left; rw [if_neg hs, if_pos (by omega)]; exact ⟨by decide, rfl⟩
    · rw [h0]
      match r with
      | [] => left; rw [fst_s1 (.inr (.inl h0))]; exact ⟨by decide, by rw [if_pos (by simp)]⟩
      | [b] => left; rw [fst_s2 b (.inl h0)]; exact ⟨by decide, by rw [if_pos (by simp)]⟩
      | b :: c :: r =>
        rw [fst_thr b c r h0, if_neg (show ¬ (b :: c :: r).length + 1 < 3 from by simp)]
        simp only [List.getD_cons_zero, List.getD_cons_succ]
        by_cases hs : sec a b = true
        · have hs' := (sec_iff a b).mp hs
          rw [if_neg (show ¬ (b.toNat < (lead a.toNat).2.1 ∨ (lead a.toNat).2.2 < b.toNat) from by omega), if_neg (show ¬ 3 ≤ 2 from by decide)]
          by_cases hc : cont c = true
          · have hc' := (cont_iff c).mp hc
            right; rw [if_pos ⟨hs, hc⟩, if_neg (show ¬ (c.toNat < 128 ∨ 191 < c.toNat) from by omega), if_pos (show 3 ≤ 3 from by decide)]
            refine ⟨by simp, by simp only [thr, Int.toNat_natCast], by simp⟩
          · have hc' := (not_congr (cont_iff c)).mp hc
            left; rw [if_neg (fun g => hc g.2), if_pos (by omega)]; exact ⟨by decide, rfl⟩
        · have hs' := (not_congr (sec_iff a b)).mp hs
          left; rw [if_neg (fun g => hs g.1), if_pos (by omega)]; exact ⟨by decide, rfl⟩
    · rw [h0]
      match r with
      | [] => left; rw [fst_s1 (.inr (.inr h0))]; exact ⟨by decide, by rw [if_pos (by simp)]⟩
      | [b] => left; rw [fst_s2 b (.inr h0)]; exact ⟨by decide, by rw [if_pos (by simp)]⟩
      | [b, c] => left; rw [fst_s3 b c h0]; exact ⟨by decide, by rw [if_pos (by simp)]⟩
      | b :: c :: d :: r =>
        rw [fst_fou b c d r h0, if_neg (show ¬ (b :: c :: d :: r).length + 1 < 4 from by simp)]
        simp only [List.getD_cons_zero, List.getD_cons_succ]
        by_cases hs : sec a b = true
        · have hs' := (sec_iff a b).mp hs
          rw [if_neg (show ¬ (b.toNat < (lead a.toNat).2.1 ∨ (lead a.toNat).2.2 < b.toNat) from by omega), if_neg (show ¬ 4 ≤ 2 from by decide)]
          by_cases hc : cont c = true
          · have hc' := (cont_iff c).mp hc
            rw [if_neg (show ¬ (c.toNat < 128 ∨ 191 < c.toNat) from by omega), if_neg (show ¬ 4 ≤ 3 from by decide)]
            by_cases hd : cont d = true
            · have hd' := (cont_iff d).mp hd
              right; rw [if_pos ⟨hs, hc, hd⟩, if_neg (by omega)]
              refine ⟨by simp, by simp only [fou, Int.toNat_natCast], by simp⟩
            · have hd' := (not_congr (cont_iff d)).mp hd
              left; rw [if_neg (fun g => hd g.2.2), if_pos (by omega)]; exact ⟨by decide, rfl⟩
          · have hc' := (not_congr (cont_iff c)).mp hc
            left; rw [if_neg (fun g => hc g.2.1), if_pos (by omega)]; exact ⟨by decide, rfl⟩
        · have hs' := (not_congr (sec_iff a b)).mp hs
          left; rw [if_neg (fun g => hs g.1), if_pos (by omega)]; exact ⟨by decide, rfl⟩
  · left
    have hb : firstT a.toNat = 241 := by
      rcases firstT_cases a.toNat with g | g | g | g | g | g | g | g | g
      · exfalso
        unfold firstT at g
        rw [if_neg h] at g
        repeat' split at g
        all_goals omega
      · exact g
      all_goals rw [g] at hx; exact absurd (by decide) hx
    have hl := lead_T a.toNat
    rw [if_neg hx] at hl
    rw [fst_none r h (by rw [hl])]
    refine ⟨by decide, ?_⟩
    unfold dec
    exact bad_eq _ _ _ _ _ (hlt _) hb
theorem fst_bound (l : List UInt8) : -1 ≤ (fst l).1 ∧ (fst l).1 ≤ 1114111 ∧ (fst l).2 ≤ 4 := by
  match l with
  | [] => exact ⟨by decide, by decide, by decide⟩
  | a :: r =>
    have hlt : ∀ x : UInt8, x.toNat < 256 := fun x => x.toNat_lt
    rcases fst_cases a r with ⟨h1, h2, _⟩ | ⟨h1, h2⟩ | ⟨b, r', rfl, h0, hs, h2, _⟩ | ⟨b, c, r', rfl, h0, hs, hc, h2, _⟩ | ⟨b, c, d, r', rfl, h0, hs, hc, hd, h2, _⟩
    · rw [h2]; refine ⟨?_, ?_, ?_⟩ <;> simp only <;> omega
    · rw [h2]; refine ⟨?_, ?_, ?_⟩ <;> simp
    · rw [h2]; refine ⟨?_, ?_, ?_⟩ <;> simp only [two] <;> omega
    · rw [h2]; refine ⟨?_, ?_, ?_⟩ <;> simp only [thr] <;> omega
    · rw [h2]
      have g := hlt a
      have ha : a.toNat ≤ 244 := by
        rcases Nat.lt_or_ge 244 a.toNat with g | g
        · exfalso
          have : (lead a.toNat).1 = 0 := by unfold lead; rw [if_neg (by omega), if_neg (by omega), if_neg (by omega), if_neg (by omega), if_neg (by omega), if_neg (by omega), if_neg (by omega), if_neg (by omega)]
          omega
        · exact g
      have hb := (sec_iff a b).mp hs
      have h240 : 240 ≤ a.toNat := by
        rcases Nat.lt_or_ge a.toNat 240 with g | g
        · exfalso
          unfold lead at h0
          repeat' split at h0
          all_goals omega
        · exact g
      have hbb : a.toNat = 244 → 128 ≤ b.toNat ∧ b.toNat ≤ 143 := by
        intro e; rw [e] at hb; exact hb
      refine ⟨?_, ?_, ?_⟩ <;> simp only [fou]
      · omega
      · rcases Nat.lt_or_ge a.toNat 244 with g | g
        · omega
        · have := hbb (by omega); omega
      · omega
end Go.Proofs.YtjjilhfebkeoeaaDoor.Ky
