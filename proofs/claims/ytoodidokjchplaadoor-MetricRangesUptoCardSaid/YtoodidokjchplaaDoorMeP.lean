/- Clusters of bytes, and what a seam changes; nothing of Go's memory. -/
import Derived.Test.YtoodidokjchplaaDoorUP
namespace Go.Proofs.YtoodidokjchplaaDoor.Un
set_option linter.unusedVariables false
set_option linter.unusedSimpArgs false
def marksT : List (Int × Int) := [(0x300, 0x36F), (0x483, 0x489), (0x591, 0x5BD), (0x5BF, 0x5BF), (0x5C1, 0x5C2), (0x610, 0x61A), (0x64B, 0x65F), (0x670, 0x670), (0x6D6, 0x6DC), (0x900, 0x902), (0x93C, 0x93C), (0x94D, 0x94D), (0xE31, 0xE31), (0xE34, 0xE3A), (0xE47, 0xE4E), (0x135D, 0x135F), (0x1AB0, 0x1AFF), (0x1DC0, 0x1DFF), (0x200C, 0x200D), (0x20D0, 0x20FF), (0x302A, 0x302F), (0x3099, 0x309A), (0xFE00, 0xFE0F), (0xFE20, 0xFE2F), (0x1F3FB, 0x1F3FF), (0xE0100, 0xE01EF)]
def widesT : List (Int × Int) := [(0x1100, 0x115F), (0x231A, 0x231B), (0x2329, 0x232A), (0x23E9, 0x23EC), (0x25FD, 0x25FE), (0x2614, 0x2615), (0x2648, 0x2653), (0x26AA, 0x26AB), (0x2E80, 0x3029), (0x3030, 0x303E), (0x3041, 0x3098), (0x309B, 0x4DBF), (0x4E00, 0xA4CF), (0xA960, 0xA97F), (0xAC00, 0xD7A3), (0xF900, 0xFAFF), (0xFE30, 0xFE6F), (0xFF01, 0xFF60), (0xFFE0, 0xFFE6), (0x16FE0, 0x18AFF), (0x1B000, 0x1B2FF), (0x1F300, 0x1F3FA), (0x1F400, 0x1F64F), (0x1F680, 0x1F6FF), (0x1F900, 0x1F9FF), (0x20000, 0x2FFFD), (0x30000, 0x3FFFD)]
/-- Does c lie in one of the ranges? -/
def inT (t : List (Int × Int)) (c : Int) : Bool := t.any fun r => decide (r.1 ≤ c) && decide (c ≤ r.2)
/-- A character's class. -/
def clsOf (c : Int) : Int :=
  if c < 0 ∨ 1114111 < c ∨ (55296 ≤ c ∧ c ≤ 57343) then 5 else if c = 10 then 1 else if c < 32 ∨ (127 ≤ c ∧ c ≤ 159) then 2 else if inT marksT c = true then 3 else if inT widesT c = true then 4 else 0
/-- The cells of a cluster that begins with a character. -/
def celOf (c : Int) : Int := if clsOf c = 1 then 0 else if clsOf c = 4 then 2 else if clsOf c = 2 ∧ c ≤ 127 then 2 else 1
theorem cls_range (c : Int) : 0 ≤ clsOf c ∧ clsOf c ≤ 5 := by
  unfold clsOf
  repeat' split
  all_goals omega
theorem cel_range (c : Int) : 0 ≤ celOf c ∧ celOf c ≤ 2 := by
  unfold celOf
  repeat' split
  all_goals omega
/-- Does no boundary stand between two units that follow one another? -/
def glue (u v : Int) : Bool := decide (u = 13 ∧ v = 10) || (decide (clsOf v = 3) && (decide (clsOf u ≠ 1) && decide (clsOf u ≠ 2)))
def gluO : Option Int → Int → Bool
  | none, _ => false
  | some u, v => glue u v
/-- How many clusters units have, behind a unit or none. -/
def nCl : Option Int → List (Int × Nat) → Nat
  | _, [] => 0
  | p, (c, _) :: r => (if gluO p c = true then 0 else 1) + nCl (some c) r
def lf : List (Int × Nat) → Bool
  | (c, _) :: _ => decide (c = 10)
  | [] => false
/-- How many cells they take. -/
def xCl : Option Int → List (Int × Nat) → Int
  | _, [] => 0
  | p, (c, _) :: r => (if gluO p c = true then 0 else if c = 13 ∧ lf r = true then 0 else celOf c) + xCl (some c) r
/-! A unit looks at four bytes at most; inside it stand bytes that begin none. -/
theorem fst_take4 (l : List UInt8) : fst (l.take 4) = fst l := by
  match l with
  | [] => rfl
  | [a] => rfl
  | [a, b] => rfl
  | [a, b, c] => rfl
  | a :: b :: c :: d :: r =>
    show fst [a, b, c, d] = fst (a :: b :: c :: d :: r)
    rcases lead_cases a.toNat with h | h | h | h
    · by_cases g : a.toNat < 128
      · rw [fst_ascii _ g, fst_ascii _ g]
      · rw [fst_none _ g h, fst_none _ g h]
    · rw [fst_two _ _ h, fst_two _ _ h]
    · rw [fst_thr _ _ _ h, fst_thr _ _ _ h]
    · rw [fst_fou _ _ _ _ h, fst_fou _ _ _ _ h]
theorem sec_cont {a b : UInt8} (h : sec a b = true) (h0 : (lead a.toNat).1 ≠ 0) : 128 ≤ b.toNat ∧ b.toNat ≤ 191 := by
  have h1 := (sec_iff a b).mp h
  unfold lead at h1 h0
  repeat' split at h1
  all_goals (simp_all; try omega)
theorem cont_one {b : UInt8} (r : List UInt8) (h : 128 ≤ b.toNat ∧ b.toNat ≤ 191) : fst (b :: r) = (-1, 1) := by
  refine fst_none r (by omega) ?_
  unfold lead
  rw [if_pos (by omega)]
theorem fst_lt5 (l : List UInt8) : (fst l).2 ≤ 4 := (fst_bound l).2.2
/-- Inside a unit every place is a bad byte of its own. -/
theorem inside {x : List UInt8} {k : Nat} (h1 : 1 ≤ k) (h2 : k < (fst x).2) : (fst (x.drop k)).2 = 1 := by
  match x with
  | [] => simp [fst] at h2; omega
  | a :: r =>
    rcases fst_cases a r with ⟨g1, g2, _⟩ | ⟨g1, g2⟩ | ⟨b, r', rfl, h0, hs, g2, _⟩ | ⟨b, c, r', rfl, h0, hs, hc, g2, _⟩ | ⟨b, c, d, r', rfl, h0, hs, hc, hd, g2, _⟩
    · rw [g2] at h2; simp only at h2; omega
    · rw [g2] at h2; simp only at h2; omega
    · rw [g2] at h2
      simp only at h2
      obtain rfl : k = 1 := by omega
      have hb := sec_cont hs (by omega)
      show (fst (b :: r')).2 = 1
      rw [cont_one _ hb]
    · rw [g2] at h2
      simp only at h2
      have hb := sec_cont hs (by omega)
      have hc' := (cont_iff c).mp hc
      rcases (by omega : k = 1 ∨ k = 2) with rfl | rfl
      · show (fst (b :: c :: r')).2 = 1
        rw [cont_one _ hb]
      · show (fst (c :: r')).2 = 1
        rw [cont_one _ hc']
    · rw [g2] at h2
      simp only at h2
      have hb := sec_cont hs (by omega)
      have hc' := (cont_iff c).mp hc
      have hd' := (cont_iff d).mp hd
      rcases (by omega : k = 1 ∨ k = 2 ∨ k = 3) with rfl | rfl | rfl
      · show (fst (b :: c :: d :: r')).2 = 1
        rw [cont_one _ hb]
      · show (fst (c :: d :: r')).2 = 1
        rw [cont_one _ hc']
      · show (fst (d :: r')).2 = 1
        rw [cont_one _ hd']
/-- An ASCII character is its byte. -/
theorem fst_small {a : UInt8} {r : List UInt8} (h0 : 0 ≤ (fst (a :: r)).1) (h1 : (fst (a :: r)).1 < 128) : (fst (a :: r)).1 = a.toNat ∧ (fst (a :: r)).2 = 1 ∧ a.toNat < 128 := by
  have hlt : ∀ x : UInt8, x.toNat < 256 := fun x => x.toNat_lt
  rcases fst_cases a r with ⟨g1, g2, _⟩ | ⟨g1, g2⟩ | ⟨b, r', rfl, g0, hs, g2, _⟩ | ⟨b, c, r', rfl, g0, hs, hc, g2, _⟩ | ⟨b, c, d, r', rfl, g0, hs, hc, hd, g2, _⟩
  · rw [g2]; exact ⟨rfl, rfl, g1⟩
  · rw [g2] at h0; simp at h0
  · rw [g2] at h1
    have hb := (sec_iff a b).mp hs
    have ha := hlt a
    simp only [two] at h1
    exfalso
    unfold lead at g0 hb
    repeat' split at g0
    all_goals (simp_all; try omega)
  · rw [g2] at h1
    have hb := (sec_iff a b).mp hs
    have ha := hlt a
    simp only [thr] at h1
    exfalso
    unfold lead at g0 hb
    repeat' split at g0
    all_goals (simp_all; try omega)
  · rw [g2] at h1
    have hb := (sec_iff a b).mp hs
    have ha := hlt a
    simp only [fou] at h1
    exfalso
    unfold lead at g0 hb
    repeat' split at g0
    all_goals (simp_all; try omega)
end Go.Proofs.YtoodidokjchplaaDoor.Un
