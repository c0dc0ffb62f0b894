/- The bytes of a key: plain. -/
import Derived.Test.YtjjilhfebkeoeaaDoorKyQ
import Derived.Lib.RuneBytes
import Derived.Lib.Small
import Derived.Lib.ItoaNum
namespace Go.Proofs.YtjjilhfebkeoeaaDoor.Ky
set_option linter.unusedVariables false

def encL (c : Int) : List UInt8 := if Go.Lib.validRune c = true then Go.Lib.encodeRune c else []
def ctl (c : Int) : List UInt8 := if c = 63 then [127] else if 64 ≤ c ∧ c < 96 then [UInt8.ofNat (c - 64).toNat] else []
def mnum (k : Key) : Nat := 1 + (if k.shift = true then 1 else 0) + (if k.mt = true then 2 else 0) + (if k.ctrl = true then 4 else 0)
def fitsB (k l : Key) : Bool := decide (l.kind = k.kind) && !decide (l.kind = 0) && decide (l.char = k.char)
def findL (k : Key) : Option Nat := (List.range' 65 26).find? fun b => fitsB k (lettered b)
def findN (k : Key) : Option Nat := (List.range' 1 29).find? fun n => fitsB k (numbered n)
def letterF (k : Key) (b : Nat) : List UInt8 := if mnum k = 1 ∨ (k.kind = 15 ∧ mnum k = 2) then [27, 91, UInt8.ofNat b] else [27, 91, 49, 59] ++ Go.Lib.decDigits (mnum k) ++ [UInt8.ofNat b]
def numberF (k : Key) (n : Nat) : List UInt8 := if mnum k = 1 then [27, 91] ++ Go.Lib.decDigits n ++ [126] else [27, 91] ++ Go.Lib.decDigits n ++ [59] ++ Go.Lib.decDigits (mnum k) ++ [126]
def seqL (k : Key) : List UInt8 := match findL k with
  | some b => letterF k b
  | none => match findN k with
    | some n => numberF k n
    | none => []
def lead0 (k : Key) : List UInt8 := if k.kind = 1 then encL k.char else if k.kind = 2 then ctl k.char else if k.kind = 4 ∨ k.kind = 18 then k.text else if k.kind = 3 then [27] else if k.kind = 17 then pbeg ++ k.text ++ pend else seqL k
def form (k : Key) : List UInt8 := if k.mt = true ∧ (k.kind = 1 ∨ k.kind = 2 ∨ k.kind = 4) then 27 :: lead0 k else lead0 k
def bytesOf (k : Key) : List UInt8 × Bool := if form k = [] ∨ keysOf true (form k) ≠ [k] then ([], false) else (form k, true)

theorem mnum_le (k : Key) : 1 ≤ mnum k ∧ mnum k ≤ 8 := by unfold mnum; split <;> split <;> split <;> omega
theorem find_none_to {p : Nat → Bool} {a n : Nat} (h : ∀ j, a ≤ j → j < a + n → p j = false) : (List.range' a n).find? p = none := by
  rw [List.find?_eq_none]
  intro x hx
  rw [List.mem_range'_1] at hx
  rw [h x hx.1 hx.2]; simp
theorem find_some_at {p : Nat → Bool} : ∀ (n a b : Nat), a ≤ b → b < a + n → (∀ j, a ≤ j → j < b → p j = false) → p b = true → (List.range' a n).find? p = some b
  | 0, a, b, h1, h2, _, _ => absurd h2 (by omega)
  | n + 1, a, b, h1, h2, h3, h4 => by
    rw [List.range'_succ, List.find?_cons]
    by_cases e : a = b
    · subst e; rw [h4]
    · rw [h3 a (Nat.le_refl _) (by omega)]
      exact find_some_at n (a + 1) b (by omega) (by omega) (fun j g1 g2 => h3 j (by omega) g2) h4
theorem decDigits_one {n : Nat} (h : n < 10) : Go.Lib.decDigits n = [UInt8.ofNat (48 + n)] := by rw [Go.Lib.decDigits, dif_pos h]
theorem decDigits_two {n : Nat} (h : 10 ≤ n) (h2 : n < 100) : Go.Lib.decDigits n = [UInt8.ofNat (48 + n / 10), UInt8.ofNat (48 + n % 10)] := by
  rw [Go.Lib.decDigits, dif_neg (by omega), decDigits_one (by omega)]; rfl
theorem letter_1 {k : Key} {b : Nat} (h : mnum k = 1) : letterF k b = [27, 91, UInt8.ofNat b] := by unfold letterF; rw [if_pos (.inl h)]
theorem letter_15 {k : Key} {b : Nat} (h : mnum k = 2) (h15 : k.kind = 15) : letterF k b = [27, 91, UInt8.ofNat b] := by unfold letterF; rw [if_pos (.inr ⟨h15, h⟩)]
theorem letter_n {k : Key} {b m : Nat} (hm : mnum k = m) (h1 : m ≠ 1) (h2 : k.kind ≠ 15 ∨ m ≠ 2) : letterF k b = [27, 91, 49, 59] ++ Go.Lib.decDigits m ++ [UInt8.ofNat b] := by
  unfold letterF; rw [hm, if_neg (fun g => by rcases g with g | g; · exact h1 g
                                              · rcases h2 with h2 | h2; · exact h2 g.1
                                                · exact h2 g.2)]
theorem number_1 {k : Key} {n : Nat} (h : mnum k = 1) : numberF k n = [27, 91] ++ Go.Lib.decDigits n ++ [126] := by unfold numberF; rw [if_pos h]
theorem number_n {k : Key} {n m : Nat} (hm : mnum k = m) (h : m ≠ 1) : numberF k n = [27, 91] ++ Go.Lib.decDigits n ++ [59] ++ Go.Lib.decDigits m ++ [126] := by unfold numberF; rw [hm, if_neg h]
theorem seq_L {k : Key} {b : Nat} (h : findL k = some b) : seqL k = letterF k b := by unfold seqL; rw [h]
theorem seq_N {k : Key} {n : Nat} (h0 : findL k = none) (h : findN k = some n) : seqL k = numberF k n := by unfold seqL; rw [h0]; simp only; rw [h]
theorem seq_0 {k : Key} (h0 : findL k = none) (h : findN k = none) : seqL k = [] := by unfold seqL; rw [h0]; simp only; rw [h]
theorem dec_len {n : Nat} (h : n < 100) : (Go.Lib.decDigits n).length ≤ 10 := by
  by_cases g : n < 10
  · rw [decDigits_one g]; simp
  · rw [decDigits_two (by omega) h]; simp
end Go.Proofs.YtjjilhfebkeoeaaDoor.Ky
