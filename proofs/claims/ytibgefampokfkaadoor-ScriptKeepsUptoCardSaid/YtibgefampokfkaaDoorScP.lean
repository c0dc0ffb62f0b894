/- The plain functions of a script's text: a piece, the bytes that it means, a width's number. Nothing of Go, nothing of memory. -/
import Derived.Lib.Bytealg
import Derived.Lib.ItoaNum
namespace Go.Proofs.YtibgefampokfkaaDoor.Sc

def hexd : List UInt8 := [48, 49, 50, 51, 52, 53, 54, 55, 56, 57, 97, 98, 99, 100, 101, 102]
def hexOf (n : Nat) : UInt8 := hexd.getD n 0
/-- A byte's piece. -/
def pc (c : UInt8) : List UInt8 :=
  if c = 92 then [92, 92] else if 32 ≤ c ∧ c ≤ 126 then [c] else if c = 10 then [92, 110] else if c = 13 then [92, 114] else if c = 9 then [92, 116]
  else if c = 27 then [92, 101] else [92, 120, hexOf (c.toNat / 16), hexOf (c.toNat % 16)]
def piece (l : List UInt8) : List UInt8 := l.flatMap pc
/-- A hexadecimal digit's number. -/
def hx (c : UInt8) : Option Nat := if 48 ≤ c ∧ c ≤ 57 then some (c.toNat - 48) else if 97 ≤ c ∧ c ≤ 102 then some (c.toNat - 87) else none
/-- What stands behind a backslash, the letter. -/
def esc (d : UInt8) : Option UInt8 := if d = 92 then some 92 else if d = 110 then some 10 else if d = 114 then some 13 else if d = 116 then some 9 else if d = 101 then some 27 else none
/-- Two digits and the rest. -/
def hex2 : List UInt8 → Option (UInt8 × List UInt8)
  | a :: b :: r => (hx a).bind fun x => (hx b).bind fun y => some (UInt8.ofNat (16 * x + y), r)
  | _ => none
def slash : List UInt8 → Option (UInt8 × List UInt8)
  | [] => none
  | d :: r => match esc d with
    | some c => some (c, r)
    | none => if d = 120 then hex2 r else none
/-- The first byte that a piece means, and the rest. -/
def one : List UInt8 → Option (UInt8 × List UInt8)
  | [] => none
  | c :: r => if c < 32 ∨ 126 < c then none else if c = 92 then slash r else some (c, r)
def unp : Nat → List UInt8 → Option (List UInt8)
  | _, [] => some []
  | 0, _ :: _ => none
  | n + 1, c :: r => (one (c :: r)).bind fun p => (unp n p.2).map (p.1 :: ·)
def unpiece (l : List UInt8) : Option (List UInt8) := unp l.length l
def unpR (l : List UInt8) : List UInt8 × Bool := match unpiece l with
  | some b => (b, true)
  | none => ([], false)

theorem hex2_lt {l r : List UInt8} {c : UInt8} (h : hex2 l = some (c, r)) : r.length + 2 = l.length := by
  match l with
  | [] => simp [hex2] at h
  | [_] => simp [hex2] at h
  | a :: b :: t =>
    simp only [hex2] at h
    obtain ⟨x, _, h⟩ := Option.bind_eq_some_iff.mp h
    obtain ⟨y, _, h⟩ := Option.bind_eq_some_iff.mp h
    simp only [Option.some.injEq, Prod.mk.injEq] at h
    obtain ⟨-, rfl⟩ := h
    rfl
theorem slash_lt {l r : List UInt8} {c : UInt8} (h : slash l = some (c, r)) : r.length < l.length := by
  match l with
  | [] => simp [slash] at h
  | d :: t =>
    simp only [slash] at h
    split at h
    · simp only [Option.some.injEq, Prod.mk.injEq] at h
      obtain ⟨-, rfl⟩ := h
      simp
    · split at h
      · have := hex2_lt h
        simp only [List.length_cons]; omega
      · cases h
theorem one_lt {l r : List UInt8} {c : UInt8} (h : one l = some (c, r)) : r.length < l.length := by
  match l with
  | [] => simp [one] at h
  | d :: t =>
    simp only [one] at h
    split at h
    · cases h
    · split at h
      · have := slash_lt h
        simp only [List.length_cons]; omega
      · simp only [Option.some.injEq, Prod.mk.injEq] at h
        obtain ⟨-, rfl⟩ := h
        simp
theorem unp_fuel (n : Nat) : ∀ (m : Nat) (l : List UInt8), l.length ≤ n → l.length ≤ m → unp n l = unp m l := by
  induction n with
  | zero =>
    intro m l h _
    cases l with
    | nil => cases m <;> rfl
    | cons c r => simp at h
  | succ n ih =>
    intro m l h1 h2
    cases l with
    | nil => cases m <;> rfl
    | cons c r =>
      cases m with
      | zero => simp at h2
      | succ m =>
        simp only [unp]
        cases ho : one (c :: r) with
        | none => rfl
        | some p =>
          have := one_lt (c := p.1) (r := p.2) ho
          simp only [Option.bind_some]
          rw [ih m p.2 (by omega) (by omega)]
theorem unpiece_nil : unpiece [] = some [] := rfl
theorem unpiece_cons (c : UInt8) (r : List UInt8) : unpiece (c :: r) = (one (c :: r)).bind fun p => (unpiece p.2).map (p.1 :: ·) := by
  unfold unpiece
  simp only [List.length_cons, unp]
  cases ho : one (c :: r) with
  | none => rfl
  | some p =>
    have := one_lt (c := p.1) (r := p.2) ho
    simp only [List.length_cons] at this
    simp only [Option.bind_some]
    rw [unp_fuel r.length p.2.length p.2 (by omega) (Nat.le_refl _)]

/-- A width's number: of its digits; none where something else stands. -/
def wd : Nat → List UInt8 → Option Nat
  | n, [] => some n
  | n, c :: r => if c < 48 ∨ 57 < c then none else wd (10 * n + (c.toNat - 48)) r
def wid (l : List UInt8) : Nat × Bool :=
  if l.length < 1 ∨ 5 < l.length ∨ l.head? = some 48 then (0, false) else match wd 0 l with
  | none => (0, false)
  | some n => (n, decide (n ≤ 65535))

theorem hx_index : ∀ c : UInt8, Go.Lib.indexByte hexd c = match hx c with
    | some x => (x : Int)
    | none => -1 := by
  have h : ∀ i : Fin 256, Go.Lib.indexByte hexd (UInt8.ofNat i.val) = match hx (UInt8.ofNat i.val) with
    | some x => (x : Int)
    | none => -1 := by decide +kernel
  intro c
  have := h ⟨c.toNat, c.toNat_lt⟩
  simpa using this
theorem hx_lt {c : UInt8} {x : Nat} (h : hx c = some x) : x < 16 := by
  have hc : ∀ i : Fin 256, ∀ x, hx (UInt8.ofNat i.val) = some x → x < 16 := by
    intro i x h
    have : (match hx (UInt8.ofNat i.val) with
      | some x => decide (x < 16)
      | none => true) = true := by
      have g : ∀ i : Fin 256, (match hx (UInt8.ofNat i.val) with
        | some x => decide (x < 16)
        | none => true) = true := by decide +kernel
      exact g i
    rw [h] at this
    simpa using this
  exact hc ⟨c.toNat, c.toNat_lt⟩ x (by simpa using h)
end Go.Proofs.YtibgefampokfkaaDoor.Sc
