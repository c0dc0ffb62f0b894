/- Units of bytes: what the first one is, in plain words and in the library's; all of them; nothing of Go's memory. -/
import Derived.Lib.DecodeNEq
import Derived.Shelf.Unicode.DecodeSlow
namespace Go.Proofs.YtoodidokjchplaaDoor.Un
set_option linter.unusedVariables false
set_option linter.unusedSimpArgs false
def cont (b : UInt8) : Bool := decide (128 ≤ b.toNat ∧ b.toNat ≤ 191)
/-- What a first byte asks for: how many bytes in all, and the range of the second. -/
def lead (n : Nat) : Nat × Nat × Nat :=
  if n < 194 then (0, 0, 0) else if n < 224 then (2, 128, 191) else if n = 224 then (3, 160, 191) else if n = 237 then (3, 128, 159) else if n < 240 then (3, 128, 191)
  else if n = 240 then (4, 144, 191) else if n < 244 then (4, 128, 191) else if n = 244 then (4, 128, 143) else (0, 0, 0)
def sec (a b : UInt8) : Bool := decide ((lead a.toNat).2.1 ≤ b.toNat ∧ b.toNat ≤ (lead a.toNat).2.2)
def two (a b : Nat) : Nat := a % 32 * 64 + b % 64
def thr (a b c : Nat) : Nat := a % 16 * 4096 + b % 64 * 64 + c % 64
def fou (a b c d : Nat) : Nat := a % 8 * 262144 + b % 64 * 4096 + c % 64 * 64 + d % 64
/-- The unit that begins a text: its character (-1: a bad byte) and its bytes' number. -/
def fst : List UInt8 → Int × Nat
  | [] => (-1, 1)
  | a :: r => if a.toNat < 128 then ((a.toNat : Int), 1) else match (lead a.toNat).1, r with
    | 2, b :: _ => if sec a b = true then ((two a.toNat b.toNat : Nat), 2) else (-1, 1)
    | 3, b :: c :: _ => if sec a b = true ∧ cont c = true then ((thr a.toNat b.toNat c.toNat : Nat), 3) else (-1, 1)
    | 4, b :: c :: d :: _ => if sec a b = true ∧ cont c = true ∧ cont d = true then ((fou a.toNat b.toNat c.toNat d.toNat : Nat), 4) else (-1, 1)
    | _, _ => (-1, 1)
/-- Is it the beginning of an encoding, and not all of it? -/
def begun : List UInt8 → Bool
  | [] => false
  | [a] => decide (2 ≤ (lead a.toNat).1)
  | [a, b] => decide (3 ≤ (lead a.toNat).1) && sec a b
  | [a, b, c] => decide (4 ≤ (lead a.toNat).1) && sec a b && cont c
  | _ => false

theorem fst_pos (l : List UInt8) : 1 ≤ (fst l).2 := by
  unfold fst
  split
  · simp
  · split
    · simp
    · split <;> first | (split <;> simp) | simp
theorem fst_le (l : List UInt8) (h : l ≠ []) : (fst l).2 ≤ l.length := by
  unfold fst
  split
  · exact absurd rfl h
  · split
    · simp
    · split <;> first | (split <;> simp) | simp
theorem lead_cases (n : Nat) : (lead n).1 = 0 ∨ (lead n).1 = 2 ∨ (lead n).1 = 3 ∨ (lead n).1 = 4 := by
  unfold lead
  repeat' split
  all_goals simp
theorem lead_ascii {n : Nat} (h : n < 128) : (lead n).1 = 0 := by unfold lead; rw [if_pos (by omega)]
theorem fst_ascii {a : UInt8} (r : List UInt8) (h : a.toNat < 128) : fst (a :: r) = ((a.toNat : Int), 1) := by
  simp only [fst]; rw [if_pos h]
theorem fst_none {a : UInt8} (r : List UInt8) (h : ¬ a.toNat < 128) (h0 : (lead a.toNat).1 = 0) : fst (a :: r) = (-1, 1) := by
  simp only [fst]; rw [if_neg h, h0]; rfl
theorem fst_two {a : UInt8} (b : UInt8) (r : List UInt8) (h0 : (lead a.toNat).1 = 2) : fst (a :: b :: r) = if sec a b = true then (((two a.toNat b.toNat : Nat) : Int), 2) else (-1, 1) := by
  have h : ¬ a.toNat < 128 := fun h => by rw [lead_ascii h] at h0; cases h0
  simp only [fst]; rw [if_neg h, h0]; rfl
theorem fst_thr {a : UInt8} (b c : UInt8) (r : List UInt8) (h0 : (lead a.toNat).1 = 3) : fst (a :: b :: c :: r) = if sec a b = true ∧ cont c = true then (((thr a.toNat b.toNat c.toNat : Nat) : Int), 3) else (-1, 1) := by
  have h : ¬ a.toNat < 128 := fun h => by rw [lead_ascii h] at h0; cases h0
  simp only [fst]; rw [if_neg h, h0]; rfl
theorem fst_fou {a : UInt8} (b c d : UInt8) (r : List UInt8) (h0 : (lead a.toNat).1 = 4) : fst (a :: b :: c :: d :: r) = if sec a b = true ∧ cont c = true ∧ cont d = true then (((fou a.toNat b.toNat c.toNat d.toNat : Nat) : Int), 4) else (-1, 1) := by
  have h : ¬ a.toNat < 128 := fun h => by rw [lead_ascii h] at h0; cases h0
  simp only [fst]; rw [if_neg h, h0]; rfl
theorem fst_s1 {a : UInt8} (h0 : (lead a.toNat).1 = 2 ∨ (lead a.toNat).1 = 3 ∨ (lead a.toNat).1 = 4) : fst [a] = (-1, 1) := by
  have h : ¬ a.toNat < 128 := fun h => by rw [lead_ascii h] at h0; omega
  simp only [fst]; rw [if_neg h]; rcases h0 with h0 | h0 | h0 <;> rw [h0] <;> rfl
theorem fst_s2 {a : UInt8} (b : UInt8) (h0 : (lead a.toNat).1 = 3 ∨ (lead a.toNat).1 = 4) : fst [a, b] = (-1, 1) := by
  have h : ¬ a.toNat < 128 := fun h => by rw [lead_ascii h] at h0; omega
  simp only [fst]; rw [if_neg h]; rcases h0 with h0 | h0 <;> rw [h0] <;> rfl
theorem fst_s3 {a : UInt8} (b c : UInt8) (h0 : (lead a.toNat).1 = 4) : fst [a, b, c] = (-1, 1) := by
  have h : ¬ a.toNat < 128 := fun h => by rw [lead_ascii h] at h0; omega
  simp only [fst]; rw [if_neg h, h0]; rfl
theorem begun_zero {a : UInt8} (r : List UInt8) (h0 : (lead a.toNat).1 = 0) : begun (a :: r) = false := by
  match r with
  | [] => simp [begun, h0]
  | [_] => simp [begun, h0]
  | [_, _] => simp [begun, h0]
  | _ :: _ :: _ :: _ => rfl
/-- The cases of a text's first unit. -/
theorem fst_cases (a : UInt8) (r : List UInt8) : (a.toNat < 128 ∧ fst (a :: r) = ((a.toNat : Int), 1) ∧ begun (a :: r) = false)
    ∨ (¬ a.toNat < 128 ∧ fst (a :: r) = (-1, 1))
    ∨ (∃ b r', r = b :: r' ∧ (lead a.toNat).1 = 2 ∧ sec a b = true ∧ fst (a :: r) = (((two a.toNat b.toNat : Nat) : Int), 2) ∧ begun (a :: r) = false)
    ∨ (∃ b c r', r = b :: c :: r' ∧ (lead a.toNat).1 = 3 ∧ sec a b = true ∧ cont c = true ∧ fst (a :: r) = (((thr a.toNat b.toNat c.toNat : Nat) : Int), 3) ∧ begun (a :: r) = false)
    ∨ (∃ b c d r', r = b :: c :: d :: r' ∧ (lead a.toNat).1 = 4 ∧ sec a b = true ∧ cont c = true ∧ cont d = true ∧ fst (a :: r) = (((fou a.toNat b.toNat c.toNat d.toNat : Nat) : Int), 4) ∧ begun (a :: r) = false) := by
  by_cases h : a.toNat < 128
  · exact .inl ⟨h, fst_ascii r h, begun_zero r (lead_ascii h)⟩
  · rcases lead_cases a.toNat with h0 | h0 | h0 | h0
    · exact .inr (.inl ⟨h, fst_none r h h0⟩)
    · match r with
      | [] => exact .inr (.inl ⟨h, fst_s1 (.inl h0)⟩)
      | b :: r =>
        by_cases hs : sec a b = true
        · exact .inr (.inr (.inl ⟨b, r, rfl, h0, hs, by rw [fst_two b r h0, if_pos hs], by match r with
            | [] => simp [begun, h0]
            | [_] => simp [begun, h0]
            | _ :: _ :: _ => rfl⟩))
        · exact .inr (.inl ⟨h, by rw [fst_two b r h0, if_neg hs]⟩)
    · match r with
      | [] => exact .inr (.inl ⟨h, fst_s1 (.inr (.inl h0))⟩)
      | [b] => exact .inr (.inl ⟨h, fst_s2 b (.inl h0)⟩)
      | b :: c :: r =>
        by_cases hs : sec a b = true ∧ cont c = true
        · exact .inr (.inr (.inr (.inl ⟨b, c, r, rfl, h0, hs.1, hs.2, by rw [fst_thr b c r h0, if_pos hs], by match r with
            | [] => simp [begun, h0]
            | _ :: _ => rfl⟩)))
        · exact .inr (.inl ⟨h, by rw [fst_thr b c r h0, if_neg hs]⟩)
    · match r with
      | [] => exact .inr (.inl ⟨h, fst_s1 (.inr (.inr h0))⟩)
      | [b] => exact .inr (.inl ⟨h, fst_s2 b (.inr h0)⟩)
      | [b, c] => exact .inr (.inl ⟨h, fst_s3 b c h0⟩)
      | b :: c :: d :: r =>
        by_cases hs : sec a b = true ∧ cont c = true ∧ cont d = true
        · exact .inr (.inr (.inr (.inr ⟨b, c, d, r, rfl, h0, hs.1, hs.2.1, hs.2.2, by rw [fst_fou b c d r h0, if_pos hs], rfl⟩)))
        · exact .inr (.inl ⟨h, by rw [fst_fou b c d r h0, if_neg hs]⟩)
theorem fst_app (a : UInt8) (r t : List UInt8) (hb : begun (a :: r) = false) : fst (a :: r ++ t) = fst (a :: r) ∧ begun (a :: r ++ t) = false := by
  rw [List.cons_append]
  by_cases h : a.toNat < 128
  · exact ⟨by rw [fst_ascii _ h, fst_ascii _ h], begun_zero _ (lead_ascii h)⟩
  · rcases lead_cases a.toNat with h0 | h0 | h0 | h0
    · exact ⟨by rw [fst_none _ h h0, fst_none _ h h0], begun_zero _ h0⟩
    · match r with
      | [] => simp [begun, h0] at hb
      | b :: r =>
        refine ⟨by rw [List.cons_append, fst_two b _ h0, fst_two b _ h0], ?_⟩
        match r, t with
        | [], [] => simp [begun, h0]
        | [], [_] => simp [begun, h0]
        | [], _ :: _ :: _ => rfl
        | [_], [] => simp [begun, h0]
        | [_], _ :: _ => rfl
        | _ :: _ :: _, _ => rfl
    · match r with
      | [] => simp [begun, h0] at hb
      | [b] =>
        have hs : sec a b = false := by simpa [begun, h0] using hb
        match t with
        | [] => exact ⟨rfl, hb⟩
        | [c] => exact ⟨by rw [fst_s2 b (.inl h0)]; simp only [List.cons_append, List.nil_append]; rw [fst_thr b c [] h0, hs]; simp, by simp [begun, h0]⟩
        | c :: d :: t => exact ⟨by rw [fst_s2 b (.inl h0)]; simp only [List.cons_append, List.nil_append]; rw [fst_thr b c (d :: t) h0, hs]; simp, rfl⟩
      | b :: c :: r =>
        refine ⟨by simp only [List.cons_append]; rw [fst_thr b c _ h0, fst_thr b c _ h0], ?_⟩
        match r, t with
        | [], [] => simp [begun, h0]
        | [], _ :: _ => rfl
        | _ :: _, _ => rfl
    · match r with
      | [] => simp [begun, h0] at hb
      | [b] =>
        have hs : sec a b = false := by simpa [begun, h0] using hb
        match t with
        | [] => exact ⟨rfl, hb⟩
        | [c] => exact ⟨by rw [fst_s2 b (.inr h0)]; simp only [List.cons_append, List.nil_append]; rw [fst_s3 b c h0], by simp [begun, h0, hs]⟩
        | c :: d :: t => exact ⟨by rw [fst_s2 b (.inr h0)]; simp only [List.cons_append, List.nil_append]; rw [fst_fou b c d t h0, hs]; simp, rfl⟩
      | [b, c] =>
        have hs : ¬ (sec a b = true ∧ cont c = true) := by simpa [begun, h0] using hb
        match t with
        | [] => exact ⟨rfl, hb⟩
        | d :: t => exact ⟨by rw [fst_s3 b c h0]; simp only [List.cons_append, List.nil_append]; rw [fst_fou b c d t h0, if_neg (fun h => hs ⟨h.1, h.2.1⟩)], rfl⟩
      | b :: c :: d :: r => exact ⟨by simp only [List.cons_append]; rw [fst_fou b c d _ h0, fst_fou b c d _ h0], rfl⟩
theorem fst_take (a : UInt8) (r : List UInt8) (h : 0 ≤ (fst (a :: r)).1) : fst ((a :: r).take (fst (a :: r)).2) = fst (a :: r) := by
  rcases fst_cases a r with ⟨h1, h2, _⟩ | ⟨h1, h2⟩ | ⟨b, r', rfl, h0, hs, h2, _⟩ | ⟨b, c, r', rfl, h0, hs, hc, h2, _⟩ | ⟨b, c, d, r', rfl, h0, hs, hc, hd, h2, _⟩
  · rw [h2]; exact fst_ascii [] h1
  · rw [h2] at h; simp at h
  · rw [h2]; simp only [List.take_succ_cons, List.take_zero]; rw [fst_two b [] h0, if_pos hs]
  · rw [h2]; simp only [List.take_succ_cons, List.take_zero]; rw [fst_thr b c [] h0, if_pos ⟨hs, hc⟩]
  · rw [h2]; simp only [List.take_succ_cons, List.take_zero]; rw [fst_fou b c d [] h0, if_pos ⟨hs, hc, hd⟩]
theorem fst_neg {a : UInt8} {r : List UInt8} (h : (fst (a :: r)).1 < 0) : fst (a :: r) = (-1, 1) ∧ ¬ a.toNat < 128 := by
  rcases fst_cases a r with ⟨h1, h2, _⟩ | ⟨h1, h2⟩ | ⟨b, r', rfl, h0, hs, h2, _⟩ | ⟨b, c, r', rfl, h0, hs, hc, h2, _⟩ | ⟨b, c, d, r', rfl, h0, hs, hc, hd, h2, _⟩
  · rw [h2] at h; simp at h; omega
  · exact ⟨h2, h1⟩
  · rw [h2] at h; simp at h; omega
  · rw [h2] at h; simp at h; omega
  · rw [h2] at h; simp at h; omega
theorem fst_one {a : UInt8} (h : ¬ a.toNat < 128) : fst [a] = (-1, 1) := by
  rcases lead_cases a.toNat with h0 | h0
  · exact fst_none [] h h0
  · exact fst_s1 h0

open Go.Lib

theorem lead_T (n : Nat) : lead n = if firstT n < 240 then (firstT n % 8, accLo (firstT n / 16), accHi (firstT n / 16)) else (0, 0, 0) := by
  rcases Nat.lt_or_ge n 194 with h | h
  · have e : lead n = (0, 0, 0) := by unfold lead; rw [if_pos h]
    have f : ¬ firstT n < 240 := by
      unfold firstT
      split
      · omega
      · first | omega | (rw [if_pos (by omega)]; omega)
    rw [e, if_neg f]
  rcases Nat.lt_or_ge n 224 with h2 | h2
  · rw [firstT_C2 ⟨h, h2⟩]; unfold lead; rw [if_neg (by omega), if_pos h2]; rfl
  by_cases h3 : n = 224
  · subst h3; rfl
  by_cases h4 : n = 237
  · subst h4; rfl
  rcases Nat.lt_or_ge n 240 with h5 | h5
  · rw [firstT_E1 (by omega)]; unfold lead; rw [if_neg (by omega), if_neg (by omega), if_neg h3, if_neg h4, if_pos h5]; rfl
  by_cases h6 : n = 240
  · subst h6; rfl
  rcases Nat.lt_or_ge n 244 with h7 | h7
  · rw [firstT_F1 (by omega)]; unfold lead; rw [if_neg (by omega), if_neg (by omega), if_neg h3, if_neg h4, if_neg (by omega), if_neg h6, if_pos h7]; rfl
  by_cases h8 : n = 244
  · subst h8; rfl
  · have e : lead n = (0, 0, 0) := by unfold lead; rw [if_neg (by omega), if_neg (by omega), if_neg h3, if_neg h4, if_neg (by omega), if_neg h6, if_neg (by omega), if_neg h8]
    have f : firstT n = 241 := by
      unfold firstT
      rw [if_neg (by omega), if_neg (by omega), if_neg (by omega), if_neg h3, if_neg (by omega), if_neg h4, if_neg (by omega), if_neg h6, if_neg (by omega), if_neg h8]
    rw [e, f]; rfl
theorem sec_iff (a b : UInt8) : sec a b = true ↔ ((lead a.toNat).2.1 ≤ b.toNat ∧ b.toNat ≤ (lead a.toNat).2.2) := by unfold sec; simp
theorem cont_iff (b : UInt8) : cont b = true ↔ (128 ≤ b.toNat ∧ b.toNat ≤ 191) := by unfold cont; simp
/-- What the library answers, off the text's bytes. -/
def dec (l : List UInt8) : Nat × Nat := decodeN l.length (l.getD 0 0).toNat (l.getD 1 0).toNat (l.getD 2 0).toNat (l.getD 3 0).toNat
theorem get_bang (s : ByteArray) (k : Nat) : s.get! k = s.data.toList.getD k 0 := by
  cases s with
  | mk d =>
    show d[k]! = _
    rw [List.getD_eq_getElem?_getD, Array.getElem?_toList]
    simp [getElem!_def]
    cases d[k]? <;> rfl
theorem dec_go (s : ByteArray) (h : 0 < s.size) : Lib.decodeGo s = dec s.data.toList := by
  unfold Lib.decodeGo dec
  rw [if_neg (by omega), decode_at, get_bang, get_bang, get_bang, get_bang]
  simp
theorem dec_fst (a : UInt8) (r : List UInt8) : ((fst (a :: r)).1 < 0 ∧ dec (a :: r) = (65533, 1)) ∨ (0 ≤ (fst (a :: r)).1 ∧ dec (a :: r) = ((fst (a :: r)).1.toNat, (fst (a :: r)).2) ∧ ((fst (a :: r)).1 = 65533 → (fst (a :: r)).2 ≠ 1)) := by
  have hlt : ∀ x : UInt8, x.toNat < 256 := fun x => x.toNat_lt
  by_cases h : a.toNat < 128
  · right
    rw [fst_ascii r h]
    refine ⟨by simp, ?_, by simp; omega⟩
    unfold dec
    simp only [List.getD_cons_zero, decodeN]
    rw [if_pos h]; simp
  by_cases hx : firstT a.toNat < 240
  · have hl := lead_T a.toNat
    rw [if_pos hx] at hl
    have hd : dec (a :: r) = slowN (r.length + 1) a.toNat (r.getD 0 0).toNat (r.getD 1 0).toNat (r.getD 2 0).toNat (lead a.toNat).1 (lead a.toNat).2.1 (lead a.toNat).2.2 := by
      rw [hl, slow_eq _ _ _ _ _ (by omega) (hlt _) (hlt _) (hlt _) hx]; rfl
    rw [hd]
    unfold slowN
    rcases lead_cases a.toNat with h0 | h0 | h0 | h0
    · rw [hl] at h0
      rcases firstT_cases a.toNat with g | g | g | g | g | g | g | g | g <;> rw [g] at h0 hx <;> simp at h0 hx
    · rw [h0]
      match r with
      | [] => left; rw [fst_s1 (.inl h0)]; exact ⟨by decide, by rw [if_pos (by simp)]⟩
      | b :: r =>
        rw [fst_two b r h0, if_neg (show ¬ (b :: r).length + 1 < 2 from by simp)]
        simp only [List.getD_cons_zero]
        by_cases hs : sec a b = true
        · have hs' := (sec_iff a b).mp hs
          right; rw [if_pos hs, if_neg (show ¬ (b.toNat < (lead a.toNat).2.1 ∨ (lead a.toNat).2.2 < b.toNat) from by omega), if_pos (show 2 ≤ 2 from by decide)]
          refine ⟨by simp, by simp only [two, Int.toNat_natCast], by simp⟩
        · have hs' := (not_congr (sec_iff a b)).mp hs
          left; rw [if_neg hs, if_pos (by omega)]; exact ⟨by decide, rfl⟩
    · rw [h0]
      match r with
      | [] => left; rw [fst_s1 (.inr (.inl h0))]; exact ⟨by decide, by rw [if_pos (by simp)]⟩
      | [b] => left; rw [fst_s2 b (.inl h0)]; exact ⟨by decide, by rw [if_pos (by simp)]⟩
      | b :: c :: r =>
        rw [fst_thr b c r h0, if_neg (show ¬ (b :: c :: r).length + 1 < 3 from by simp)]
        simp only [List.getD_cons_zero, List.getD_cons_succ]
        by_cases hs : sec a b = true
        · have hs' := (sec_iff a b).mp hs
          rw [if_neg (show ¬ (b.toNat < (lead a.toNat).2.1 ∨ (lead a.toNat).2.2 < b.toNat) from by omega), if_neg (show ¬ 3 ≤ 2 from by decide)]
          by_cases hc : cont c = true
          · have hc' := (cont_iff c).mp hc
            right; rw [if_pos ⟨hs, hc⟩, if_neg (show ¬ (c.toNat < 128 ∨ 191 < c.toNat) from by omega), if_pos (show 3 ≤ 3 from by decide)]
            refine ⟨by simp, by simp only [thr, Int.toNat_natCast], by simp⟩
          · have hc' := (not_congr (cont_iff c)).mp hc
            left; rw [if_neg (fun g => hc g.2), if_pos (by omega)]; exact ⟨by decide, rfl⟩
        · have hs' := (not_congr (sec_iff a b)).mp hs
          left; rw [if_neg (fun g => hs g.1), if_pos (by omega)]; exact ⟨by decide, rfl⟩
    · rw [h0]
      match r with
      | [] => left; rw [fst_s1 (.inr (.inr h0))]; exact ⟨by decide, by rw [if_pos (by simp)]⟩
      | [b] => left; rw [fst_s2 b (.inr h0)]; exact ⟨by decide, by rw [if_pos (by simp)]⟩
      | [b, c] => left; rw [fst_s3 b c h0]; exact ⟨by decide, by rw [if_pos (by simp)]⟩
      | b :: c :: d :: r =>
        rw [fst_fou b c d r h0, if_neg (show ¬ (b :: c :: d :: r).length + 1 < 4 from by simp)]
        simp only [List.getD_cons_zero, List.getD_cons_succ]
        by_cases hs : sec a b = true
        · have hs' := (sec_iff a b).mp hs
          rw [if_neg (show ¬ (b.toNat < (lead a.toNat).2.1 ∨ (lead a.toNat).2.2 < b.toNat) from by omega), if_neg (show ¬ 4 ≤ 2 from by decide)]
          by_cases hc : cont c = true
          · have hc' := (cont_iff c).mp hc
            rw [if_neg (show ¬ (c.toNat < 128 ∨ 191 < c.toNat) from by omega), if_neg (show ¬ 4 ≤ 3 from by decide)]
            by_cases hd : cont d = true
            · have hd' := (cont_iff d).mp hd
              right; rw [if_pos ⟨hs, hc, hd⟩, if_neg (by omega)]
              refine ⟨by simp, by simp only [fou, Int.toNat_natCast], by simp⟩
            · have hd' := (not_congr (cont_iff d)).mp hd
              left; rw [if_neg (fun g => hd g.2.2), if_pos (by omega)]; exact ⟨by decide, rfl⟩
          · have hc' := (not_congr (cont_iff c)).mp hc
            left; rw [if_neg (fun g => hc g.2.1), if_pos (by omega)]; exact ⟨by decide, rfl⟩
        · have hs' := (not_congr (sec_iff a b)).mp hs
          left; rw [if_neg (fun g => hs g.1), if_pos (by omega)]; exact ⟨by decide, rfl⟩
  · left
    have hb : firstT a.toNat = 241 := by
      rcases firstT_cases a.toNat with g | g | g | g | g | g | g | g | g
      · exfalso
        unfold firstT at g
        rw [if_neg h] at g
        repeat' split at g
        all_goals omega
      · exact g
      all_goals rw [g] at hx; exact absurd (by decide) hx
    have hl := lead_T a.toNat
    rw [if_neg hx] at hl
    rw [fst_none r h (by rw [hl])]
    refine ⟨by decide, ?_⟩
    unfold dec
    exact bad_eq _ _ _ _ _ (hlt _) hb
theorem fst_bound (l : List UInt8) : -1 ≤ (fst l).1 ∧ (fst l).1 ≤ 1114111 ∧ (fst l).2 ≤ 4 := by
  match l with
  | [] => exact ⟨by decide, by decide, by decide⟩
  | a :: r =>
    have hlt : ∀ x : UInt8, x.toNat < 256 := fun x => x.toNat_lt
    rcases fst_cases a r with ⟨h1, h2, _⟩ | ⟨h1, h2⟩ | ⟨b, r', rfl, h0, hs, h2, _⟩ | ⟨b, c, r', rfl, h0, hs, hc, h2, _⟩ | ⟨b, c, d, r', rfl, h0, hs, hc, hd, h2, _⟩
    · rw [h2]; refine ⟨?_, ?_, ?_⟩ <;> simp only <;> omega
    · rw [h2]; refine ⟨?_, ?_, ?_⟩ <;> simp
    · rw [h2]; refine ⟨?_, ?_, ?_⟩ <;> simp only [two] <;> omega
    · rw [h2]; refine ⟨?_, ?_, ?_⟩ <;> simp only [thr] <;> omega
    · rw [h2]
      have g := hlt a
      have ha : a.toNat ≤ 244 := by
        rcases Nat.lt_or_ge 244 a.toNat with g | g
        · exfalso
          have : (lead a.toNat).1 = 0 := by unfold lead; rw [if_neg (by omega), if_neg (by omega), if_neg (by omega), if_neg (by omega), if_neg (by omega), if_neg (by omega), if_neg (by omega), if_neg (by omega)]
          omega
        · exact g
      have hb := (sec_iff a b).mp hs
      have h240 : 240 ≤ a.toNat := by
        rcases Nat.lt_or_ge a.toNat 240 with g | g
        · exfalso
          unfold lead at h0
          repeat' split at h0
          all_goals omega
        · exact g
      have hbb : a.toNat = 244 → 128 ≤ b.toNat ∧ b.toNat ≤ 143 := by
        intro e; rw [e] at hb; exact hb
      refine ⟨?_, ?_, ?_⟩ <;> simp only [fou]
      · omega
      · rcases Nat.lt_or_ge a.toNat 244 with g | g
        · omega
        · have := hbb (by omega); omega
      · omega
/-- All units of a text. -/
def unitsN : Nat → List UInt8 → List (Int × Nat)
  | 0, _ => []
  | f + 1, l => if l = [] then [] else fst l :: unitsN f (l.drop (fst l).2)
def unitsOf (l : List UInt8) : List (Int × Nat) := unitsN l.length l
theorem unitsN_more : ∀ (f g : Nat) (l : List UInt8), l.length ≤ f → l.length ≤ g → unitsN f l = unitsN g l
  | 0, 0, l, _, _ => rfl
  | 0, g + 1, l, h, _ => by have : l = [] := List.eq_nil_of_length_eq_zero (by omega); subst this; simp [unitsN]
  | f + 1, 0, l, _, h => by have : l = [] := List.eq_nil_of_length_eq_zero (by omega); subst this; simp [unitsN]
  | f + 1, g + 1, l, h1, h2 => by
    unfold unitsN
    by_cases h : l = []
    · rw [if_pos h, if_pos h]
    · rw [if_neg h, if_neg h]
      have hp := fst_pos l
      have hl := List.length_pos_iff.mpr h
      rw [unitsN_more f g (l.drop (fst l).2) (by rw [List.length_drop]; omega) (by rw [List.length_drop]; omega)]
theorem units_nil : unitsOf [] = [] := rfl
theorem units_cons {l : List UInt8} (h : l ≠ []) : unitsOf l = fst l :: unitsOf (l.drop (fst l).2) := by
  have hl := List.length_pos_iff.mpr h
  have hp := fst_pos l
  unfold unitsOf
  obtain ⟨n, hn⟩ : ∃ n, l.length = n + 1 := ⟨l.length - 1, by omega⟩
  rw [hn]
  conv => lhs; unfold unitsN
  rw [if_neg h, unitsN_more n (l.drop (fst l).2).length _ (by rw [List.length_drop]; omega) (Nat.le_refl _)]
theorem units_len (n : Nat) : ∀ l : List UInt8, l.length ≤ n → (unitsOf l).length ≤ l.length := by
  induction n with
  | zero => intro l h; have : l = [] := List.eq_nil_of_length_eq_zero (by omega); subst this; simp [units_nil]
  | succ n ih =>
    intro l h
    by_cases h0 : l = []
    · subst h0; simp [units_nil]
    · have hl := List.length_pos_iff.mpr h0
      have hp := fst_pos l
      have := ih (l.drop (fst l).2) (by rw [List.length_drop]; omega)
      rw [units_cons h0, List.length_cons]
      rw [List.length_drop] at this; omega
theorem fst_bad {l : List UInt8} (h : (fst l).1 < 0) : (fst l).2 = 1 := by
  unfold fst at h ⊢
  split
  · rfl
  · rename_i a r
    simp only at h ⊢
    split
    · rfl
    · rename_i h1
      rw [if_neg h1] at h
      revert h
      split <;> (try split) <;> (try (intro _; rfl)) <;> (intro h; simp only at h; omega)
end Go.Proofs.YtoodidokjchplaaDoor.Un
