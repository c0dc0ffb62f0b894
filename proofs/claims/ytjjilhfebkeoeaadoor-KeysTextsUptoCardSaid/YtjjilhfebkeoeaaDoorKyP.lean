/- The plain functions of bytes read as keys: a unit, a key with its bytes' number, all keys. Nothing of Go, nothing of memory. -/
import Derived.Lib.Index
import Derived.Lib.IndexLaws
import Derived.Lib.DecodeNEq
import Derived.Shelf.Unicode.DecodeSlow
import Derived.Lib.RuneBytes
import Derived.Lib.Small
import Derived.Lib.ItoaNum
namespace Go.Proofs.YtjjilhfebkeoeaaDoor.Ky

def cont (b : UInt8) : Bool := decide (128 ≤ b.toNat ∧ b.toNat ≤ 191)
/-- What a first byte asks for: how many bytes in all, and the range of the second. -/
def lead (n : Nat) : Nat × Nat × Nat :=
  if n < 194 then (0, 0, 0) else if n < 224 then (2, 128, 191) else if n = 224 then (3, 160, 191) else if n = 237 then (3, 128, 159) else if n < 240 then (3, 128, 191)
  else if n = 240 then (4, 144, 191) else if n < 244 then (4, 128, 191) else if n = 244 then (4, 128, 143) else (0, 0, 0)
def sec (a b : UInt8) : Bool := decide ((lead a.toNat).2.1 ≤ b.toNat ∧ b.toNat ≤ (lead a.toNat).2.2)
def two (a b : Nat) : Nat := a % 32 * 64 + b % 64
def thr (a b c : Nat) : Nat := a % 16 * 4096 + b % 64 * 64 + c % 64
def fou (a b c d : Nat) : Nat := a % 8 * 262144 + b % 64 * 4096 + c % 64 * 64 + d % 64
/-- The unit that begins a text: its character (-1: a bad byte) and its bytes' number. -/
def fst : List UInt8 → Int × Nat
  | [] => (-1, 1)
  | a :: r => if a.toNat < 128 then ((a.toNat : Int), 1) else match (lead a.toNat).1, r with
    | 2, b :: _ => if sec a b = true then ((two a.toNat b.toNat : Nat), 2) else (-1, 1)
    | 3, b :: c :: _ => if sec a b = true ∧ cont c = true then ((thr a.toNat b.toNat c.toNat : Nat), 3) else (-1, 1)
    | 4, b :: c :: d :: _ => if sec a b = true ∧ cont c = true ∧ cont d = true then ((fou a.toNat b.toNat c.toNat d.toNat : Nat), 4) else (-1, 1)
    | _, _ => (-1, 1)
/-- Is it the beginning of an encoding, and not all of it? -/
def begun : List UInt8 → Bool
  | [] => false
  | [a] => decide (2 ≤ (lead a.toNat).1)
  | [a, b] => decide (3 ≤ (lead a.toNat).1) && sec a b
  | [a, b, c] => decide (4 ≤ (lead a.toNat).1) && sec a b && cont c
  | _ => false

structure Key where
  kind : Int
  char : Int
  ctrl : Bool
  mt : Bool
  shift : Bool
  text : List UInt8
deriving DecidableEq, Inhabited
def key0 : Key := ⟨0, 0, false, false, false, []⟩
def plain (last : Bool) (l : List UInt8) : Key × Nat := match l with
  | [] => (key0, 0)
  | a :: _ => if a.toNat = 127 then (⟨2, 63, true, false, false, []⟩, 1) else if a.toNat < 32 then (⟨2, (a.toNat : Int) + 64, true, false, false, []⟩, 1)
    else if last = false ∧ begun l = true then (key0, 0) else if (fst l).1 < 0 then (⟨4, 0, false, false, false, [a]⟩, 1) else (⟨1, (fst l).1, false, false, false, []⟩, (fst l).2)
def unknown (l : List UInt8) : Key × Nat := (⟨18, 0, false, false, false, l⟩, l.length)
def withM (c : Int) : Key × Nat := (⟨1, c, false, true, false, []⟩, 2)
def named (k : Int) : Key := ⟨k, 0, false, false, false, []⟩
def lettered (b : Nat) : Key :=
  if b = 65 then named 5 else if b = 66 then named 6 else if b = 67 then named 7 else if b = 68 then named 8 else if b = 72 then named 9 else if b = 70 then named 10
  else if 80 ≤ b ∧ b ≤ 83 then ⟨16, (b : Int) - 79, false, false, false, []⟩ else if b = 90 then ⟨15, 0, false, false, true, []⟩ else key0
def numbered (n : Int) : Key :=
  if n = 1 ∨ n = 7 then named 9 else if n = 2 then named 11 else if n = 3 then named 12 else if n = 4 ∨ n = 8 then named 10 else if n = 5 then named 13 else if n = 6 then named 14
  else if 11 ≤ n ∧ n ≤ 15 then ⟨16, n - 10, false, false, false, []⟩ else if 17 ≤ n ∧ n ≤ 21 then ⟨16, n - 11, false, false, false, []⟩ else if n = 23 ∨ n = 24 then ⟨16, n - 12, false, false, false, []⟩ else key0
def ss3 (last : Bool) (l : List UInt8) : Key × Nat := match l.drop 2 with
  | [] => if last = false then (key0, 0) else withM 79
  | c :: _ => if c.toNat < 64 ∨ 126 < c.toNat then withM 79 else if (lettered c.toNat).kind ≠ 0 ∧ (lettered c.toNat).kind ≠ 15 then (lettered c.toNat, 3) else unknown (l.take 3)
def inside (c : UInt8) : Bool := decide (32 ≤ c.toNat ∧ c.toNat ≤ 63)
/-- Where a CSI sequence's inside ends: at most 32. -/
def scan (l : List UInt8) : Nat := 2 + (((l.drop 2).take 30).takeWhile inside).length
def digit (c : UInt8) : Bool := decide (48 ≤ c.toNat ∧ c.toNat ≤ 57)
def dval (l : List UInt8) : Nat := l.foldl (fun n c => n * 10 + (c.toNat - 48)) 0
/-- One to three digits. -/
def num (l : List UInt8) : Option Nat := if l.all digit = true ∧ 1 ≤ l.length ∧ l.length ≤ 3 then some (dval l) else none
/-- At the first byte c: what is ahead of it, what is behind it, whether it is there. -/
def cut1 (c : UInt8) : List UInt8 → List UInt8 × List UInt8 × Bool
  | [] => ([], [], false)
  | x :: r => if x = c then ([], r, true) else (x :: (cut1 c r).1, (cut1 c r).2.1, (cut1 c r).2.2)
/-- The numbers of a CSI sequence's inside, and whether there are two. -/
def numsOf (first second : List UInt8) (two : Bool) : Option (Nat × Nat) :=
  if two = true then match num second with
    | some m => if 1 ≤ m ∧ m ≤ 8 then (num first).map fun n => (n, m) else none
    | none => none
  else if first = [] then some (1, 1) else (num first).map fun n => (n, 1)
def pend : List UInt8 := [27, 91, 50, 48, 49, 126]
def pbeg : List UInt8 := [27, 91, 50, 48, 48, 126]
def paste (last : Bool) (l : List UInt8) (at' : Nat) : Key × Nat :=
  if 0 ≤ Go.Lib.index (l.drop at') pend then (⟨17, 0, false, false, false, (l.drop at').take (Go.Lib.index (l.drop at') pend).toNat⟩, at' + (Go.Lib.index (l.drop at') pend).toNat + 6)
  else if last = true then (⟨17, 0, false, false, false, l.drop at'⟩, l.length) else (key0, 0)
def mods (k : Key) (m : Nat) : Key := { k with shift := decide (k.kind = 15) || decide ((m - 1) % 2 = 1), mt := decide ((m - 1) / 2 % 2 = 1), ctrl := decide ((m - 1) / 4 % 2 = 1) }
def endKey (e n : Nat) : Key := if e = 126 then numbered n else if n = 1 then lettered e else key0
def meaningN (last : Bool) (l : List UInt8) (i e : Nat) (x : Option (Nat × Nat)) (two : Bool) : Key × Nat := match x with
  | none => unknown (l.take (i + 1))
  | some (n, m) => if e = 126 ∧ n = 200 ∧ two = false then paste last l (i + 1) else if (endKey e n).kind = 0 then unknown (l.take (i + 1)) else (mods (endKey e n) m, i + 1)
def meaning (last : Bool) (l : List UInt8) (i : Nat) : Key × Nat :=
  meaningN last l i (l.getD i 0).toNat (numsOf (cut1 59 ((l.take i).drop 2)).1 (cut1 59 ((l.take i).drop 2)).2.1 (cut1 59 ((l.take i).drop 2)).2.2) (cut1 59 ((l.take i).drop 2)).2.2
def csi (last : Bool) (l : List UInt8) : Key × Nat :=
  if scan l = 32 then unknown (l.take 32) else match l.drop (scan l) with
  | [] => if last = false then (key0, 0) else if scan l = 2 then withM 91 else unknown (l.take (scan l))
  | e :: _ => if 64 ≤ e.toNat ∧ e.toNat ≤ 126 then meaning last l (scan l) else if scan l = 2 then withM 91 else unknown (l.take (scan l))
/-- The key that begins a text, and how many bytes made it; 0: it can't be told yet. -/
def rd (last : Bool) (l : List UInt8) : Key × Nat := match l with
  | [] => (key0, 0)
  | a :: r => if a.toNat ≠ 27 then plain last l else match r with
    | [] => if last = false then (key0, 0) else (named 3, 1)
    | b :: _ => if b.toNat = 27 then (named 3, 1) else if b.toNat = 91 then csi last l else if b.toNat = 79 then ss3 last l
      else if (plain last r).2 = 0 then (key0, 0) else ({ (plain last r).1 with mt := true }, (plain last r).2 + 1)
/-- All keys that can be told, each with its bytes; what is left. -/
def runN : Nat → Bool → List UInt8 → List (Key × List UInt8) × List UInt8
  | 0, _, l => ([], l)
  | f + 1, last, l => if (rd last l).2 = 0 then ([], l) else ((((rd last l).1, l.take (rd last l).2) :: (runN f last (l.drop (rd last l).2)).1), (runN f last (l.drop (rd last l).2)).2)
def run (last : Bool) (l : List UInt8) : List (Key × List UInt8) × List UInt8 := runN l.length last l
def keysOf (last : Bool) (l : List UInt8) : List Key := (run last l).1.map (·.1)
def piecesOf (last : Bool) (l : List UInt8) : List (List UInt8) := (run last l).1.map (·.2)
def held (last : Bool) (l : List UInt8) : List UInt8 := (run last l).2

theorem rd_nil (last : Bool) : rd last [] = (key0, 0) := rfl
theorem fst_pos (l : List UInt8) : 1 ≤ (fst l).2 := by
  unfold fst
  split
  · simp
  · split
    · simp
    · split <;> first | (split <;> simp) | simp
theorem fst_le (l : List UInt8) (h : l ≠ []) : (fst l).2 ≤ l.length := by
  unfold fst
  split
  · exact absurd rfl h
  · split
    · simp
    · split <;> first | (split <;> simp) | simp
theorem plain_le (last : Bool) (l : List UInt8) : (plain last l).2 ≤ l.length := by
  unfold plain
  split
  · simp
  · rename_i a r
    have := fst_le (a :: r) (by simp)
    split
    · simp
    · split
      · simp
      · split
        · simp
        · split
          · simp
          · exact this
theorem plain_pos (l : List UInt8) (h : l ≠ []) : 1 ≤ (plain true l).2 := by
  unfold plain
  split
  · exact absurd rfl h
  · rename_i a r
    have := fst_pos (a :: r)
    split
    · simp
    · split
      · simp
      · split
        · rename_i h; simp at h
        · split
          · simp
          · exact this
theorem scan_le (l : List UInt8) : scan l ≤ 32 := by
  have h1 : (((l.drop 2).take 30).takeWhile inside).length ≤ ((l.drop 2).take 30).length := (List.takeWhile_sublist _).length_le
  simp only [List.length_take] at h1
  unfold scan; omega
theorem scan_len (l : List UInt8) (h : 2 ≤ l.length) : scan l ≤ l.length := by
  have h1 : (((l.drop 2).take 30).takeWhile inside).length ≤ ((l.drop 2).take 30).length := (List.takeWhile_sublist _).length_le
  simp only [List.length_take, List.length_drop] at h1
  unfold scan; omega
theorem scan_two (l : List UInt8) : 2 ≤ scan l := by unfold scan; omega
theorem unk_le (l : List UInt8) (n : Nat) : (unknown (l.take n)).2 ≤ l.length := by simp only [unknown, List.length_take]; omega
theorem unknown_len (l : List UInt8) : (unknown l).2 = l.length := rfl
theorem index_lt (s : List UInt8) (h : 0 ≤ Go.Lib.index s pend) : (Go.Lib.index s pend).toNat + 6 ≤ s.length := by
  have key : ∀ s : List UInt8, Go.Lib.index s pend = -1 ∨ (0 ≤ Go.Lib.index s pend ∧ Go.Lib.index s pend + 6 ≤ s.length) := by
    intro s
    induction s with
    | nil => left; rfl
    | cons b l ih =>
      unfold Go.Lib.index
      split
      · rename_i hp
        right
        have := (List.isPrefixOf_iff_prefix.mp hp).length_le
        simp only [pend, List.length_cons, List.length_nil] at this ⊢
        omega
      · split
        · left; rfl
        · rename_i hq
          right
          rcases ih with ih | ih
          · rw [ih] at hq; simp at hq
          · simp only [List.length_cons]; omega
  rcases key s with h1 | h1 <;> omega
theorem paste_le (last : Bool) (l : List UInt8) (i : Nat) : (paste last l i).2 ≤ l.length := by
  unfold paste
  split
  · rename_i h
    have := index_lt _ h
    simp only [List.length_drop] at this ⊢
    omega
  · split <;> simp
theorem csi_le (last : Bool) (l : List UInt8) (h : 2 ≤ l.length) : (csi last l).2 ≤ l.length := by
  have h1 := scan_len l h
  unfold csi
  split
  · exact unk_le _ _
  · split
    · split
      · simp
      · split
        · simpa [withM] using h
        · exact unk_le _ _
    · rename_i e r hd
      have h2 : scan l < l.length := by
        rcases Nat.lt_or_ge (scan l) l.length with g | g
        · exact g
        · rw [List.drop_of_length_le g] at hd; cases hd
      split
      · unfold meaning meaningN
        split
        · exact unk_le _ _
        · split
          · exact paste_le _ _ _
          · split
            · exact unk_le _ _
            · exact h2
      · split
        · simpa [withM] using h
        · exact unk_le _ _
theorem ss3_le (last : Bool) (l : List UInt8) (h : 2 ≤ l.length) : (ss3 last l).2 ≤ l.length := by
  unfold ss3
  split
  · split
    · simp
    · simpa [withM] using h
  · rename_i e r hd
    have h2 : 2 < l.length := by
      rcases Nat.lt_or_ge 2 l.length with g | g
      · exact g
      · rw [List.drop_of_length_le g] at hd; cases hd
    split
    · simpa [withM] using h
    · split
      · exact h2
      · exact unk_le _ _
theorem rd_le (last : Bool) (l : List UInt8) : (rd last l).2 ≤ l.length := by
  unfold rd
  split
  · simp
  · split
    · exact plain_le _ _
    · split
      · split <;> simp
      · split
        · simp
        · split
          · exact csi_le _ _ (by simp)
          · split
            · exact ss3_le _ _ (by simp)
            · split
              · simp
              · rename_i b r _ _ _ _
                have := plain_le last (b :: r)
                simp only [List.length_cons] at this ⊢
                omega
theorem runN_fuel (f : Nat) : ∀ (g : Nat) (last : Bool) (l : List UInt8), l.length ≤ f → l.length ≤ g → runN f last l = runN g last l := by
  induction f with
  | zero =>
    intro g last l h _
    have : l = [] := List.eq_nil_of_length_eq_zero (by omega)
    subst this
    cases g with
    | zero => rfl
    | succ g => rfl
  | succ f ih =>
    intro g last l h1 h2
    cases g with
    | zero =>
      have : l = [] := List.eq_nil_of_length_eq_zero (by omega)
      subst this
      rfl
    | succ g =>
      simp only [runN]
      by_cases h0 : (rd last l).2 = 0
      · rw [if_pos h0, if_pos h0]
      · rw [if_neg h0, if_neg h0, ih g last (l.drop (rd last l).2) (by simp only [List.length_drop]; omega) (by simp only [List.length_drop]; omega)]
theorem run_stop {last : Bool} {l : List UInt8} (h : (rd last l).2 = 0) : run last l = ([], l) := by
  unfold run
  cases l with
  | nil => rfl
  | cons a r => simp only [List.length_cons, runN]; rw [if_pos h]
theorem run_go {last : Bool} {l : List UInt8} (h : (rd last l).2 ≠ 0) : run last l = ((((rd last l).1, l.take (rd last l).2) :: (run last (l.drop (rd last l).2)).1), (run last (l.drop (rd last l).2)).2) := by
  unfold run
  cases l with
  | nil => exact absurd rfl h
  | cons a r =>
    have := rd_le last (a :: r)
    simp only [List.length_cons, runN]
    rw [if_neg h, runN_fuel r.length ((a :: r).drop (rd last (a :: r)).2).length last _ (by simp only [List.length_drop, List.length_cons]; omega) (Nat.le_refl _)]
theorem scan_take (l : List UInt8) : ∀ j, 2 ≤ j → j < scan l → ∃ c, l[j]? = some c ∧ inside c = true := by
  intro j hj hlt
  have key : ∀ (s : List UInt8) (i : Nat), i < (s.takeWhile inside).length → ∃ c, s[i]? = some c ∧ inside c = true := by
    intro s
    induction s with
    | nil => intro i hi; simp at hi
    | cons a r ih =>
      intro i hi
      by_cases ha : inside a = true
      · rw [List.takeWhile_cons_of_pos ha] at hi
        cases i with
        | zero => exact ⟨a, rfl, ha⟩
        | succ i => simpa using ih i (by simpa using hi)
      · rw [List.takeWhile_cons_of_neg ha] at hi; simp at hi
  obtain ⟨c, h1, h2⟩ := key ((l.drop 2).take 30) (j - 2) (by unfold scan at hlt; omega)
  refine ⟨c, ?_, h2⟩
  rw [List.getElem?_take] at h1
  split at h1
  · rw [List.getElem?_drop] at h1
    rwa [show 2 + (j - 2) = j from by omega] at h1
  · cases h1
/-- The loop's own way to the scan's end. -/
theorem scan_at {l : List UInt8} {i : Nat} (h2 : 2 ≤ i) (h32 : i ≤ 32) (hin : ∀ j, 2 ≤ j → j < i → ∃ c, l[j]? = some c ∧ inside c = true) (hend : i = 32 ∨ l.length ≤ i ∨ ∃ c, l[i]? = some c ∧ inside c = false) : scan l = i := by
  have key : ∀ (n : Nat) (s : List UInt8), n ≤ s.length → (∀ j, j < n → ∃ c, s[j]? = some c ∧ inside c = true) → (n = s.length ∨ ∃ c, s[n]? = some c ∧ inside c = false) → (s.takeWhile inside).length = n := by
    intro n
    induction n with
    | zero =>
      intro s _ _ he
      cases s with
      | nil => rfl
      | cons a r =>
        rcases he with he | ⟨c, h1, h2⟩
        · simp at he
        · simp only [List.getElem?_cons_zero, Option.some.injEq] at h1
          subst h1
          rw [List.takeWhile_cons_of_neg (by rw [h2]; simp)]; rfl
    | succ n ih =>
      intro s hn hi he
      cases s with
      | nil => simp at hn
      | cons a r =>
        obtain ⟨c, h1, h2⟩ := hi 0 (by omega)
        simp only [List.getElem?_cons_zero, Option.some.injEq] at h1
        subst h1
        rw [List.takeWhile_cons_of_pos h2, List.length_cons, ih r (by simpa using hn) (fun j hj => by simpa using hi (j + 1) (by omega)) (by
          rcases he with he | ⟨c, h3, h4⟩
          · left; simpa using he
          · right; exact ⟨c, by simpa using h3, h4⟩)]
  have hle : i ≤ l.length ∨ i = 2 := by
    rcases Nat.lt_or_ge 2 i with h | h
    · left
      obtain ⟨c, h1, _⟩ := hin (i - 1) (by omega) (by omega)
      obtain ⟨h3, _⟩ := List.getElem?_eq_some_iff.mp h1
      omega
    · right; omega
  have := key (i - 2) ((l.drop 2).take 30) (by simp only [List.length_take, List.length_drop]; omega) (fun j hj => by
      obtain ⟨c, h1, h2⟩ := hin (j + 2) (by omega) (by omega)
      refine ⟨c, ?_, h2⟩
      rw [List.getElem?_take, if_pos (by omega), List.getElem?_drop, Nat.add_comm]; exact h1) (by
      rcases hend with h | h | ⟨c, h1, h2'⟩
      · left; simp only [List.length_take, List.length_drop]; omega
      · left; simp only [List.length_take, List.length_drop]; omega
      · rcases Nat.lt_or_ge i 32 with g | g
        · right
          refine ⟨c, ?_, h2'⟩
          rw [List.getElem?_take, if_pos (by omega), List.getElem?_drop, show 2 + (i - 2) = i from by omega]; exact h1
        · left; simp only [List.length_take, List.length_drop]; omega)
  unfold scan; omega
end Go.Proofs.YtjjilhfebkeoeaaDoor.Ky
/- Bytes read as keys: more bytes behind change nothing of what could be told; a key's own bytes are read as it. -/
namespace Go.Proofs.YtjjilhfebkeoeaaDoor.Ky
set_option linter.unusedVariables false

theorem lead_cases (n : Nat) : (lead n).1 = 0 ∨ (lead n).1 = 2 ∨ (lead n).1 = 3 ∨ (lead n).1 = 4 := by
  unfold lead
  repeat' split
  all_goals simp
theorem lead_ascii {n : Nat} (h : n < 128) : (lead n).1 = 0 := by unfold lead; rw [if_pos (by omega)]
theorem fst_ascii {a : UInt8} (r : List UInt8) (h : a.toNat < 128) : fst (a :: r) = ((a.toNat : Int), 1) := by
  simp only [fst]; rw [if_pos h]
theorem fst_none {a : UInt8} (r : List UInt8) (h : ¬ a.toNat < 128) (h0 : (lead a.toNat).1 = 0) : fst (a :: r) = (-1, 1) := by
  simp only [fst]; rw [if_neg h, h0]; rfl
theorem fst_two {a : UInt8} (b : UInt8) (r : List UInt8) (h0 : (lead a.toNat).1 = 2) : fst (a :: b :: r) = if sec a b = true then (((two a.toNat b.toNat : Nat) : Int), 2) else (-1, 1) := by
  have h : ¬ a.toNat < 128 := fun h => by rw [lead_ascii h] at h0; cases h0
  simp only [fst]; rw [if_neg h, h0]; rfl
theorem fst_thr {a : UInt8} (b c : UInt8) (r : List UInt8) (h0 : (lead a.toNat).1 = 3) : fst (a :: b :: c :: r) = if sec a b = true ∧ cont c = true then (((thr a.toNat b.toNat c.toNat : Nat) : Int), 3) else (-1, 1) := by
  have h : ¬ a.toNat < 128 := fun h => by rw [lead_ascii h] at h0; cases h0
  simp only [fst]; rw [if_neg h, h0]; rfl
theorem fst_fou {a : UInt8} (b c d : UInt8) (r : List UInt8) (h0 : (lead a.toNat).1 = 4) : fst (a :: b :: c :: d :: r) = if sec a b = true ∧ cont c = true ∧ cont d = true then (((fou a.toNat b.toNat c.toNat d.toNat : Nat) : Int), 4) else (-1, 1) := by
  have h : ¬ a.toNat < 128 := fun h => by rw [lead_ascii h] at h0; cases h0
  simp only [fst]; rw [if_neg h, h0]; rfl
theorem fst_s1 {a : UInt8} (h0 : (lead a.toNat).1 = 2 ∨ (lead a.toNat).1 = 3 ∨ (lead a.toNat).1 = 4) : fst [a] = (-1, 1) := by
  have h : ¬ a.toNat < 128 := fun h => by rw [lead_ascii h] at h0; omega
  simp only [fst]; rw [if_neg h]; rcases h0 with h0 | h0 | h0 <;> rw [h0] <;> rfl
theorem fst_s2 {a : UInt8} (b : UInt8) (h0 : (lead a.toNat).1 = 3 ∨ (lead a.toNat).1 = 4) : fst [a, b] = (-1, 1) := by
  have h : ¬ a.toNat < 128 := fun h => by rw [lead_ascii h] at h0; omega
  simp only [fst]; rw [if_neg h]; rcases h0 with h0 | h0 <;> rw [h0] <;> rfl
theorem fst_s3 {a : UInt8} (b c : UInt8) (h0 : (lead a.toNat).1 = 4) : fst [a, b, c] = (-1, 1) := by
  have h : ¬ a.toNat < 128 := fun h => by rw [lead_ascii h] at h0; omega
  simp only [fst]; rw [if_neg h, h0]; rfl
theorem begun_zero {a : UInt8} (r : List UInt8) (h0 : (lead a.toNat).1 = 0) : begun (a :: r) = false := by
  match r with
  | [] => simp [begun, h0]
  | [_] => simp [begun, h0]
  | [_, _] => simp [begun, h0]
  | _ :: _ :: _ :: _ => rfl
/-- The cases of a text's first unit. -/
theorem fst_cases (a : UInt8) (r : List UInt8) : (a.toNat < 128 ∧ fst (a :: r) = ((a.toNat : Int), 1) ∧ begun (a :: r) = false)
    ∨ (¬ a.toNat < 128 ∧ fst (a :: r) = (-1, 1))
    ∨ (∃ b r', r = b :: r' ∧ (lead a.toNat).1 = 2 ∧ sec a b = true ∧ fst (a :: r) = (((two a.toNat b.toNat : Nat) : Int), 2) ∧ begun (a :: r) = false)
    ∨ (∃ b c r', r = b :: c :: r' ∧ (lead a.toNat).1 = 3 ∧ sec a b = true ∧ cont c = true ∧ fst (a :: r) = (((thr a.toNat b.toNat c.toNat : Nat) : Int), 3) ∧ begun (a :: r) = false)
    ∨ (∃ b c d r', r = b :: c :: d :: r' ∧ (lead a.toNat).1 = 4 ∧ sec a b = true ∧ cont c = true ∧ cont d = true ∧ fst (a :: r) = (((fou a.toNat b.toNat c.toNat d.toNat : Nat) : Int), 4) ∧ begun (a :: r) = false) := by
  by_cases h : a.toNat < 128
  · exact .inl ⟨h, fst_ascii r h, begun_zero r (lead_ascii h)⟩
  · rcases lead_cases a.toNat with h0 | h0 | h0 | h0
    · exact .inr (.inl ⟨h, fst_none r h h0⟩)
    · match r with
      | [] => exact .inr (.inl ⟨h, fst_s1 (.inl h0)⟩)
      | b :: r =>
        by_cases hs : sec a b = true
        · exact .inr (.inr (.inl ⟨b, r, rfl, h0, hs, by rw [fst_two b r h0, if_pos hs], by match r with
            | [] => simp [begun, h0]
            | [_] => simp [begun, h0]
            | _ :: _ :: _ => rfl⟩))
        · exact .inr (.inl ⟨h, by rw [fst_two b r h0, if_neg hs]⟩)
    · match r with
      | [] => exact .inr (.inl ⟨h, fst_s1 (.inr (.inl h0))⟩)
      | [b] => exact .inr (.inl ⟨h, fst_s2 b (.inl h0)⟩)
      | b :: c :: r =>
        by_cases hs : sec a b = true ∧ cont c = true
        · exact .inr (.inr (.inr (.inl ⟨b, c, r, rfl, h0, hs.1, hs.2, by rw [fst_thr b c r h0, if_pos hs], by match r with
            | [] => simp [begun, h0]
            | _ :: _ => rfl⟩)))
        · exact .inr (.inl ⟨h, by rw [fst_thr b c r h0, if_neg hs]⟩)
    · match r with
      | [] => exact .inr (.inl ⟨h, fst_s1 (.inr (.inr h0))⟩)
      | [b] => exact .inr (.inl ⟨h, fst_s2 b (.inr h0)⟩)
      | [b, c] => exact .inr (.inl ⟨h, fst_s3 b c h0⟩)
      | b :: c :: d :: r =>
        by_cases hs : sec a b = true ∧ cont c = true ∧ cont d = true
        · exact .inr (.inr (.inr (.inr ⟨b, c, d, r, rfl, h0, hs.1, hs.2.1, hs.2.2, by rw [fst_fou b c d r h0, if_pos hs], rfl⟩)))
        · exact .inr (.inl ⟨h, by rw [fst_fou b c d r h0, if_neg hs]⟩)
theorem fst_app (a : UInt8) (r t : List UInt8) (hb : begun (a :: r) = false) : fst (a :: r ++ t) = fst (a :: r) ∧ begun (a :: r ++ t) = false := by
  rw [List.cons_append]
  by_cases h : a.toNat < 128
  · exact ⟨by rw [fst_ascii _ h, fst_ascii _ h], begun_zero _ (lead_ascii h)⟩
  · rcases lead_cases a.toNat with h0 | h0 | h0 | h0
    · exact ⟨by rw [fst_none _ h h0, fst_none _ h h0], begun_zero _ h0⟩
    · match r with
      | [] => simp [begun, h0] at hb
      | b :: r =>
        refine ⟨by rw [List.cons_append, fst_two b _ h0, fst_two b _ h0], ?_⟩
        match r, t with
        | [], [] => simp [begun, h0]
        | [], [_] => simp [begun, h0]
        | [], _ :: _ :: _ => rfl
        | [_], [] => simp [begun, h0]
        | [_], _ :: _ => rfl
        | _ :: _ :: _, _ => rfl
    · match r with
      | [] => simp [begun, h0] at hb
      | [b] =>
        have hs : sec a b = false := by simpa [begun, h0] using hb
        match t with
        | [] => exact ⟨rfl, hb⟩
        | [c] => exact ⟨by rw [fst_s2 b (.inl h0)]; simp only [List.cons_append, List.nil_append]; rw [fst_thr b c [] h0, hs]; simp, by simp [begun, h0]⟩
        | c :: d :: t => exact ⟨by rw [fst_s2 b (.inl h0)]; simp only [List.cons_append, List.nil_append]; rw [fst_thr b c (d :: t) h0, hs]; simp, rfl⟩
      | b :: c :: r =>
        refine ⟨by simp only [List.cons_append]; rw [fst_thr b c _ h0, fst_thr b c _ h0], ?_⟩
        match r, t with
        | [], [] => simp [begun, h0]
        | [], _ :: _ => rfl
        | _ :: _, _ => rfl
    · match r with
      | [] => simp [begun, h0] at hb
      | [b] =>
        have hs : sec a b = false := by simpa [begun, h0] using hb
        match t with
        | [] => exact ⟨rfl, hb⟩
        | [c] => exact ⟨by rw [fst_s2 b (.inr h0)]; simp only [List.cons_append, List.nil_append]; rw [fst_s3 b c h0], by simp [begun, h0, hs]⟩
        | c :: d :: t => exact ⟨by rw [fst_s2 b (.inr h0)]; simp only [List.cons_append, List.nil_append]; rw [fst_fou b c d t h0, hs]; simp, rfl⟩
      | [b, c] =>
        have hs : ¬ (sec a b = true ∧ cont c = true) := by simpa [begun, h0] using hb
        match t with
        | [] => exact ⟨rfl, hb⟩
        | d :: t => exact ⟨by rw [fst_s3 b c h0]; simp only [List.cons_append, List.nil_append]; rw [fst_fou b c d t h0, if_neg (fun h => hs ⟨h.1, h.2.1⟩)], rfl⟩
      | b :: c :: d :: r => exact ⟨by simp only [List.cons_append]; rw [fst_fou b c d _ h0, fst_fou b c d _ h0], rfl⟩
theorem fst_take (a : UInt8) (r : List UInt8) (h : 0 ≤ (fst (a :: r)).1) : fst ((a :: r).take (fst (a :: r)).2) = fst (a :: r) := by
  rcases fst_cases a r with ⟨h1, h2, _⟩ | ⟨h1, h2⟩ | ⟨b, r', rfl, h0, hs, h2, _⟩ | ⟨b, c, r', rfl, h0, hs, hc, h2, _⟩ | ⟨b, c, d, r', rfl, h0, hs, hc, hd, h2, _⟩
  · rw [h2]; exact fst_ascii [] h1
  · rw [h2] at h; simp at h
  · rw [h2]; simp only [List.take_succ_cons, List.take_zero]; rw [fst_two b [] h0, if_pos hs]
  · rw [h2]; simp only [List.take_succ_cons, List.take_zero]; rw [fst_thr b c [] h0, if_pos ⟨hs, hc⟩]
  · rw [h2]; simp only [List.take_succ_cons, List.take_zero]; rw [fst_fou b c d [] h0, if_pos ⟨hs, hc, hd⟩]
theorem fst_neg {a : UInt8} {r : List UInt8} (h : (fst (a :: r)).1 < 0) : fst (a :: r) = (-1, 1) ∧ ¬ a.toNat < 128 := by
  rcases fst_cases a r with ⟨h1, h2, _⟩ | ⟨h1, h2⟩ | ⟨b, r', rfl, h0, hs, h2, _⟩ | ⟨b, c, r', rfl, h0, hs, hc, h2, _⟩ | ⟨b, c, d, r', rfl, h0, hs, hc, hd, h2, _⟩
  · rw [h2] at h; simp at h; omega
  · exact ⟨h2, h1⟩
  · rw [h2] at h; simp at h; omega
  · rw [h2] at h; simp at h; omega
  · rw [h2] at h; simp at h; omega
theorem fst_one {a : UInt8} (h : ¬ a.toNat < 128) : fst [a] = (-1, 1) := by
  rcases lead_cases a.toNat with h0 | h0
  · exact fst_none [] h h0
  · exact fst_s1 h0

theorem plain_del {a : UInt8} (b : Bool) (r : List UInt8) (h : a.toNat = 127) : plain b (a :: r) = (⟨2, 63, true, false, false, []⟩, 1) := by
  simp only [plain]; rw [if_pos h]
theorem plain_ctl {a : UInt8} (b : Bool) (r : List UInt8) (h1 : ¬ a.toNat = 127) (h : a.toNat < 32) : plain b (a :: r) = (⟨2, (a.toNat : Int) + 64, true, false, false, []⟩, 1) := by
  simp only [plain]; rw [if_neg h1, if_pos h]
theorem plain_wait {a : UInt8} (r : List UInt8) (h1 : ¬ a.toNat = 127) (h : ¬ a.toNat < 32) (hb : begun (a :: r) = true) : plain false (a :: r) = (key0, 0) := by
  simp only [plain]; rw [if_neg h1, if_neg h, if_pos ⟨trivial, hb⟩]
theorem plain_bad {a : UInt8} (b : Bool) (r : List UInt8) (h1 : ¬ a.toNat = 127) (h : ¬ a.toNat < 32) (hb : b = true ∨ begun (a :: r) = false) (hf : (fst (a :: r)).1 < 0) : plain b (a :: r) = (⟨4, 0, false, false, false, [a]⟩, 1) := by
  simp only [plain]; rw [if_neg h1, if_neg h, if_neg (fun g => by rcases hb with hb | hb; · rw [hb] at g; exact absurd g.1 (by simp)
                                                                  · rw [hb] at g; exact absurd g.2 (by simp)), if_pos hf]
theorem plain_chr {a : UInt8} (b : Bool) (r : List UInt8) (h1 : ¬ a.toNat = 127) (h : ¬ a.toNat < 32) (hb : b = true ∨ begun (a :: r) = false) (hf : ¬ (fst (a :: r)).1 < 0) : plain b (a :: r) = (⟨1, (fst (a :: r)).1, false, false, false, []⟩, (fst (a :: r)).2) := by
  simp only [plain]; rw [if_neg h1, if_neg h, if_neg (fun g => by rcases hb with hb | hb; · rw [hb] at g; exact absurd g.1 (by simp)
                                                                  · rw [hb] at g; exact absurd g.2 (by simp)), if_neg hf]
theorem plain_app {l : List UInt8} (b : Bool) (t : List UInt8) (h : (plain false l).2 ≠ 0) : plain b (l ++ t) = plain false l := by
  cases l with
  | nil => exact absurd rfl h
  | cons a r =>
    by_cases h1 : a.toNat = 127
    · rw [plain_del false r h1]; exact plain_del b _ h1
    by_cases h2 : a.toNat < 32
    · rw [plain_ctl false r h1 h2]; exact plain_ctl b _ h1 h2
    by_cases hb : begun (a :: r) = true
    · rw [plain_wait r h1 h2 hb] at h; exact absurd rfl h
    · have hb' : begun (a :: r) = false := by simpa using hb
      obtain ⟨e1, e2⟩ := fst_app a r t hb'
      rw [List.cons_append] at e1 e2 ⊢
      by_cases h3 : (fst (a :: r)).1 < 0
      · rw [plain_bad false r h1 h2 (.inr hb') h3, plain_bad b _ h1 h2 (.inr e2) (by rw [e1]; exact h3)]
      · rw [plain_chr false r h1 h2 (.inr hb') h3, plain_chr b _ h1 h2 (.inr e2) (by rw [e1]; exact h3), e1]
theorem plain_take {l : List UInt8} (hl : l ≠ []) : plain true (l.take (plain true l).2) = plain true l := by
  cases l with
  | nil => exact absurd rfl hl
  | cons a r =>
    by_cases h1 : a.toNat = 127
    · rw [plain_del true r h1]; exact plain_del true _ h1
    by_cases h2 : a.toNat < 32
    · rw [plain_ctl true r h1 h2]; exact plain_ctl true _ h1 h2
    by_cases h3 : (fst (a :: r)).1 < 0
    · rw [plain_bad true r h1 h2 (.inl rfl) h3]
      exact plain_bad true [] h1 h2 (.inl rfl) (by rw [fst_one (fst_neg h3).2]; decide)
    · rw [plain_chr true r h1 h2 (.inl rfl) h3]
      have ht := fst_take a r (by omega)
      have hp := fst_pos (a :: r)
      obtain ⟨n, hn⟩ : ∃ n, (fst (a :: r)).2 = n + 1 := ⟨(fst (a :: r)).2 - 1, by omega⟩
      simp only
      rw [hn, List.take_succ_cons] at ht ⊢
      rw [plain_chr true _ h1 h2 (.inl rfl) (by rw [ht]; exact h3), ht, hn]

theorem scan_app {l : List UInt8} (t : List UInt8) (h2 : 2 ≤ l.length) (h : scan l = 32 ∨ scan l < l.length) : scan (l ++ t) = scan l := by
  have h3 := scan_two l
  have h4 := scan_le l
  have h5 := scan_len l h2
  refine scan_at h3 h4 (fun j hj hlt => ?_) ?_
  · obtain ⟨c, h6, h7⟩ := scan_take l j hj hlt
    exact ⟨c, by rw [List.getElem?_append_left (by omega)]; exact h6, h7⟩
  · rcases Nat.lt_or_ge (scan l) 32 with g | g
    · rcases h with h | h
      · omega
      · right; right
        refine ⟨l[scan l], by rw [List.getElem?_append_left h, List.getElem?_eq_getElem h], ?_⟩
        -- the scan stops at a byte that is not inside
        have key : ∀ (s : List UInt8), (s.takeWhile inside).length < s.length → ∃ c, s[(s.takeWhile inside).length]? = some c ∧ inside c = false := by
          intro s
          induction s with
          | nil => intro h; simp at h
          | cons a r ih =>
            intro h
            by_cases ha : inside a = true
            · rw [List.takeWhile_cons_of_pos ha] at h ⊢
              simpa using ih (by simpa using h)
            · rw [List.takeWhile_cons_of_neg ha]
              exact ⟨a, rfl, by simpa using ha⟩
        have hs : scan l = 2 + (((l.drop 2).take 30).takeWhile inside).length := rfl
        obtain ⟨c, k1, k2⟩ := key ((l.drop 2).take 30) (by simp only [List.length_take, List.length_drop]; omega)
        rw [List.getElem?_take, if_pos (by omega), List.getElem?_drop, ← hs, List.getElem?_eq_getElem h] at k1
        rw [Option.some.inj k1]; exact k2
    · left; omega
theorem scan_cut {l : List UInt8} (n : Nat) (h2 : 2 ≤ n) (hn : n ≤ l.length) (h : n = scan l ∨ n = scan l + 1) : scan (l.take n) = scan l := by
  have h3 := scan_two l
  have h4 := scan_le l
  have h5 := scan_len l (by omega)
  refine scan_at h3 h4 (fun j hj hlt => ?_) ?_
  · obtain ⟨c, h6, h7⟩ := scan_take l j hj hlt
    exact ⟨c, by rw [List.getElem?_take, if_pos (by omega)]; exact h6, h7⟩
  · rcases h with h | h
    · right; left; simp only [List.length_take]; omega
    · rcases Nat.lt_or_ge (scan l) 32 with g | g
      · right; right
        have hx := scan_app (l := l) [] (by omega) (.inr (by omega))
        rw [List.append_nil] at hx
        have key : ∀ (s : List UInt8), (s.takeWhile inside).length < s.length → ∃ c, s[(s.takeWhile inside).length]? = some c ∧ inside c = false := by
          intro s
          induction s with
          | nil => intro h; simp at h
          | cons a r ih =>
            intro h
            by_cases ha : inside a = true
            · rw [List.takeWhile_cons_of_pos ha] at h ⊢
              simpa using ih (by simpa using h)
            · rw [List.takeWhile_cons_of_neg ha]
              exact ⟨a, rfl, by simpa using ha⟩
        have hs : scan l = 2 + (((l.drop 2).take 30).takeWhile inside).length := rfl
        obtain ⟨c, k1, k2⟩ := key ((l.drop 2).take 30) (by simp only [List.length_take, List.length_drop]; omega)
        rw [List.getElem?_take, if_pos (by omega), List.getElem?_drop, ← hs] at k1
        exact ⟨c, by rw [List.getElem?_take, if_pos (by omega)]; exact k1, k2⟩
      · left; omega
theorem index_app {s : List UInt8} (t : List UInt8) (h : 0 ≤ Go.Lib.index s pend) : Go.Lib.index (s ++ t) pend = Go.Lib.index s pend := by
  induction s with
  | nil => exact absurd h (by decide)
  | cons a r ih =>
    by_cases hp : pend.isPrefixOf (a :: r) = true
    · have h2 : pend.isPrefixOf (a :: (r ++ t)) = true := by
        rw [List.isPrefixOf_iff_prefix] at hp ⊢
        exact hp.trans (by rw [← List.cons_append]; exact List.prefix_append _ _)
      simp only [List.cons_append, Go.Lib.index]
      rw [if_pos hp, if_pos h2]
    · have hq : ¬ (Go.Lib.index r pend == -1) = true := by
        intro e
        simp only [Go.Lib.index] at h
        rw [if_neg hp, if_pos e] at h
        exact absurd h (by decide)
      have hr : 0 ≤ Go.Lib.index r pend := by
        have := Go.Lib.index_ge r pend
        have hne : Go.Lib.index r pend ≠ -1 := fun e => hq (by rw [e]; rfl)
        omega
      have h6 := index_lt r hr
      have h2 : ¬ pend.isPrefixOf (a :: (r ++ t)) = true := by
        intro e
        rw [List.isPrefixOf_iff_prefix] at e
        apply hp
        rw [List.isPrefixOf_iff_prefix]
        rw [← List.cons_append] at e
        exact List.prefix_of_prefix_length_le e (List.prefix_append _ _) (by simp only [pend, List.length_cons, List.length_nil]; omega)
      simp only [List.cons_append, Go.Lib.index]
      rw [if_neg hp, if_neg h2, ih hr]
theorem index_cut {s : List UInt8} {n : Nat} (h : 0 ≤ Go.Lib.index s pend) (hn : n = (Go.Lib.index s pend).toNat + 6) : Go.Lib.index (s.take n) pend = Go.Lib.index s pend := by
  induction s generalizing n with
  | nil => exact absurd h (by decide)
  | cons a r ih =>
    by_cases hp : pend.isPrefixOf (a :: r) = true
    · have hi : Go.Lib.index (a :: r) pend = 0 := by simp only [Go.Lib.index]; rw [if_pos hp]
      rw [hi] at hn
      have h2 : pend.isPrefixOf ((a :: r).take n) = true := by
        rw [List.isPrefixOf_iff_prefix] at hp ⊢
        rw [List.prefix_take_iff]
        exact ⟨hp, by simp [pend, hn]⟩
      subst hn
      rw [hi]
      simp only [Int.toNat_zero, Nat.zero_add, List.take_succ_cons] at h2 ⊢
      simp only [Go.Lib.index]
      rw [if_pos h2]
    · have hq : ¬ (Go.Lib.index r pend == -1) = true := by
        intro e
        simp only [Go.Lib.index] at h
        rw [if_neg hp, if_pos e] at h
        exact absurd h (by decide)
      have hr : 0 ≤ Go.Lib.index r pend := by
        have := Go.Lib.index_ge r pend
        have hne : Go.Lib.index r pend ≠ -1 := fun e => hq (by rw [e]; rfl)
        omega
      have hi : Go.Lib.index (a :: r) pend = Go.Lib.index r pend + 1 := by simp only [Go.Lib.index]; rw [if_neg hp, if_neg hq]
      rw [hi] at hn
      obtain ⟨m, rfl⟩ : ∃ m, n = m + 1 := ⟨n - 1, by omega⟩
      have h2 : ¬ pend.isPrefixOf (a :: r.take m) = true := by
        intro e
        rw [List.isPrefixOf_iff_prefix] at e
        apply hp
        rw [List.isPrefixOf_iff_prefix]
        exact e.trans (List.take_prefix (m + 1) (a :: r))
      have h3 := ih (n := m) hr (by omega)
      rw [List.take_succ_cons, hi]
      simp only [Go.Lib.index]
      rw [if_neg h2, h3, if_neg hq]

theorem paste_app {l : List UInt8} {i : Nat} (b : Bool) (t : List UInt8) (hi : i ≤ l.length) (h : (paste false l i).2 ≠ 0) : paste b (l ++ t) i = paste false l i := by
  unfold paste at h ⊢
  by_cases h0 : 0 ≤ Go.Lib.index (l.drop i) pend
  · have := index_lt _ h0
    rw [if_pos h0, List.drop_append_of_le_length hi, index_app t h0, if_pos h0, List.take_append_of_le_length (by omega)]
  · rw [if_neg h0] at h; simp at h
theorem take_app {l : List UInt8} (t : List UInt8) {n : Nat} (h : n ≤ l.length) : (l ++ t).take n = l.take n := List.take_append_of_le_length h
theorem meaning_app {l : List UInt8} {i : Nat} (b : Bool) (t : List UInt8) (hi : i < l.length) (h : (meaning false l i).2 ≠ 0) : meaning b (l ++ t) i = meaning false l i := by
  have e1 : (l ++ t).take i = l.take i := take_app t (by omega)
  have e2 : (l ++ t).take (i + 1) = l.take (i + 1) := take_app t (by omega)
  have e3 : (l ++ t).getD i 0 = l.getD i 0 := by
    simp only [List.getD_eq_getElem?_getD]
    rw [List.getElem?_append_left hi]
  unfold meaning meaningN at h ⊢
  rw [e1, e2, e3]
  revert h
  generalize numsOf (cut1 59 ((l.take i).drop 2)).1 (cut1 59 ((l.take i).drop 2)).2.1 (cut1 59 ((l.take i).drop 2)).2.2 = x
  intro h
  match x, h with
  | none, _ => rfl
  | some (n, m), h =>
    simp only at h ⊢
    by_cases hp : (l.getD i 0).toNat = 126 ∧ n = 200 ∧ (cut1 59 ((l.take i).drop 2)).2.2 = false
    · rw [if_pos hp] at h ⊢
      rw [if_pos hp]
      exact paste_app b t (by omega) h
    · rw [if_neg hp, if_neg hp]
theorem csi_app {l : List UInt8} (b : Bool) (t : List UInt8) (h2 : 2 ≤ l.length) (h : (csi false l).2 ≠ 0) : csi b (l ++ t) = csi false l := by
  have h5 := scan_len l h2
  unfold csi at h ⊢
  by_cases h32 : scan l = 32
  · have : scan (l ++ t) = 32 := by rw [scan_app t h2 (.inl h32), h32]
    rw [if_pos h32, if_pos this, take_app t (by omega)]
  · rw [if_neg h32] at h ⊢
    rcases Nat.lt_or_ge (scan l) l.length with hlt | hge
    · have hs := scan_app t h2 (.inr hlt)
      rw [hs, if_neg h32, List.drop_append_of_le_length h5]
      obtain ⟨e, r, hd⟩ : ∃ e r, l.drop (scan l) = e :: r := List.exists_cons_of_ne_nil (fun e => by
        have : (l.drop (scan l)).length = 0 := by rw [e]; rfl
        rw [List.length_drop] at this; omega)
      rw [hd] at h ⊢
      simp only [List.cons_append] at h ⊢
      by_cases he : 64 ≤ e.toNat ∧ e.toNat ≤ 126
      · rw [if_pos he] at h ⊢
        rw [if_pos he]
        exact meaning_app b t hlt h
      · rw [if_neg he, if_neg he, take_app t h5]
    · rw [List.drop_of_length_le hge] at h
      simp at h
theorem ss3_app {l : List UInt8} (b : Bool) (t : List UInt8) (h : (ss3 false l).2 ≠ 0) : ss3 b (l ++ t) = ss3 false l := by
  unfold ss3 at h ⊢
  rcases Nat.lt_or_ge 2 l.length with hlt | hge
  · rw [List.drop_append_of_le_length (by omega)]
    obtain ⟨e, r, hd⟩ : ∃ e r, l.drop 2 = e :: r := List.exists_cons_of_ne_nil (fun e => by
      have : (l.drop 2).length = 0 := by rw [e]; rfl
      rw [List.length_drop] at this; omega)
    rw [hd]
    simp only [List.cons_append]
    rw [take_app t (by omega)]
  · rw [List.drop_of_length_le hge] at h
    simp at h
/-- What can be told stays told, whatever comes. -/
theorem rd_app {l : List UInt8} (b : Bool) (t : List UInt8) (h : (rd false l).2 ≠ 0) : rd b (l ++ t) = rd false l := by
  match l with
  | [] => exact absurd rfl h
  | [a] =>
    rw [List.cons_append, List.nil_append]
    simp only [rd] at h ⊢
    by_cases h1 : a.toNat ≠ 27
    · rw [if_pos h1] at h ⊢
      rw [if_pos h1]
      exact plain_app (l := [a]) b t h
    · rw [if_neg h1] at h; simp at h
  | a :: c :: r =>
    simp only [List.cons_append]
    simp only [rd] at h ⊢
    by_cases h1 : a.toNat ≠ 27
    · rw [if_pos h1] at h ⊢
      rw [if_pos h1]
      exact plain_app (l := a :: c :: r) b t h
    rw [if_neg h1] at h ⊢
    rw [if_neg h1]
    by_cases h2 : c.toNat = 27
    · rw [if_pos h2, if_pos h2]
    rw [if_neg h2] at h ⊢
    rw [if_neg h2]
    by_cases h3 : c.toNat = 91
    · rw [if_pos h3] at h ⊢
      rw [if_pos h3]
      exact csi_app (l := a :: c :: r) b t (by simp) h
    rw [if_neg h3] at h ⊢
    rw [if_neg h3]
    by_cases h4 : c.toNat = 79
    · rw [if_pos h4] at h ⊢
      rw [if_pos h4]
      exact ss3_app (l := a :: c :: r) b t h
    rw [if_neg h4] at h ⊢
    rw [if_neg h4]
    by_cases h5 : (plain false (c :: r)).2 = 0
    · rw [if_pos h5] at h; exact absurd rfl h
    · have := plain_app (l := c :: r) b t h5
      rw [List.cons_append] at this
      rw [this]
theorem paste_hit {l : List UInt8} {i : Nat} (b : Bool) (h0 : 0 ≤ Go.Lib.index (l.drop i) pend) : paste b l i = (⟨17, 0, false, false, false, (l.drop i).take (Go.Lib.index (l.drop i) pend).toNat⟩, i + (Go.Lib.index (l.drop i) pend).toNat + 6) := by
  unfold paste; rw [if_pos h0]
theorem paste_miss {l : List UInt8} {i : Nat} (h0 : ¬ 0 ≤ Go.Lib.index (l.drop i) pend) : paste true l i = (⟨17, 0, false, false, false, l.drop i⟩, l.length) := by
  unfold paste; rw [if_neg h0, if_pos rfl]
theorem csi_mean {l : List UInt8} {c : UInt8} {r : List UInt8} (b : Bool) (h32 : ¬ scan l = 32) (hd : l.drop (scan l) = c :: r) (hc : 64 ≤ c.toNat ∧ c.toNat ≤ 126) : csi b l = meaning b l (scan l) := by
  unfold csi; rw [if_neg h32, hd]; simp only; rw [if_pos hc]
theorem paste_take {l : List UInt8} (i : Nat) : paste true (l.take (paste true l i).2) i = paste true l i := by
  by_cases h0 : 0 ≤ Go.Lib.index (l.drop i) pend
  · have := index_lt _ h0
    have hv := paste_hit true h0
    have hd : (l.take (i + (Go.Lib.index (l.drop i) pend).toNat + 6)).drop i = (l.drop i).take ((Go.Lib.index (l.drop i) pend).toNat + 6) := by
      rw [List.drop_take]; congr 1; omega
    have hc : Go.Lib.index ((l.take (i + (Go.Lib.index (l.drop i) pend).toNat + 6)).drop i) pend = Go.Lib.index (l.drop i) pend := by
      rw [hd]; exact index_cut h0 rfl
    rw [hv]
    simp only
    rw [paste_hit true (by rw [hc]; exact h0), hc, hd, List.take_take]
    congr 2
    congr 1
    omega
  · have hv : (paste true l i).2 = l.length := by rw [paste_miss h0]
    rw [hv, List.take_length]
theorem csi_take {l : List UInt8} (h2 : 2 ≤ l.length) : csi true (l.take (csi true l).2) = csi true l := by
  have h3 := scan_two l
  have h5 := scan_len l h2
  by_cases h32 : scan l = 32
  · have e : csi true l = unknown (l.take 32) := by unfold csi; rw [if_pos h32]
    have hn : (csi true l).2 = 32 := by rw [e]; simp only [unknown, List.length_take]; omega
    rw [hn, e]
    unfold csi
    rw [if_pos (by rw [scan_cut 32 (by omega) (by omega) (.inl h32.symm), h32]), List.take_take]
    rfl
  · rcases Nat.lt_or_ge (scan l) l.length with hlt | hge
    · obtain ⟨c, r, hd⟩ : ∃ e r, l.drop (scan l) = e :: r := List.exists_cons_of_ne_nil (fun e => by
        have : (l.drop (scan l)).length = 0 := by rw [e]; rfl
        rw [List.length_drop] at this; omega)
      have hdt : (l.take (scan l)).drop (scan l) = [] := List.drop_of_length_le (by simp only [List.length_take]; omega)
      have hd1 : (l.take (scan l + 1)).drop (scan l) = [c] := by rw [List.drop_take, hd, show scan l + 1 - scan l = 1 from by omega]; rfl
      have e : csi true l = if 64 ≤ c.toNat ∧ c.toNat ≤ 126 then meaning true l (scan l) else if scan l = 2 then withM 91 else unknown (l.take (scan l)) := by
        unfold csi; rw [if_neg h32, hd]
      have short : ∀ hn : (csi true l).2 = scan l, ¬ (64 ≤ c.toNat ∧ c.toNat ≤ 126) → csi true (l.take (csi true l).2) = csi true l := by
        intro hn hc
        have hs := scan_cut (l := l) (scan l) h3 h5 (.inl rfl)
        rw [hn, e, if_neg hc]
        unfold csi
        rw [hs, if_neg h32, hdt]
        simp only [Bool.true_eq_false, if_false]
        rw [List.take_take, Nat.min_self]
      by_cases hc : 64 ≤ c.toNat ∧ c.toNat ≤ 126
      · rw [if_pos hc] at e
        have hs := scan_cut (l := l) (scan l + 1) (by omega) (by omega) (.inr rfl)
        have e1 : (l.take (scan l + 1)).take (scan l) = l.take (scan l) := by rw [List.take_take]; congr 1; omega
        have e2 : (l.take (scan l + 1)).take (scan l + 1) = l.take (scan l + 1) := by rw [List.take_take, Nat.min_self]
        have e3 : (l.take (scan l + 1)).getD (scan l) 0 = l.getD (scan l) 0 := by
          simp only [List.getD_eq_getElem?_getD]
          rw [List.getElem?_take, if_pos (by omega)]
        have long : (csi true l).2 = scan l + 1 → (∀ n m, numsOf (cut1 59 ((l.take (scan l)).drop 2)).1 (cut1 59 ((l.take (scan l)).drop 2)).2.1 (cut1 59 ((l.take (scan l)).drop 2)).2.2 = some (n, m) → ¬ ((l.getD (scan l) 0).toNat = 126 ∧ n = 200 ∧ (cut1 59 ((l.take (scan l)).drop 2)).2.2 = false)) → csi true (l.take (csi true l).2) = csi true l := by
          intro hn hx
          rw [hn, e]
          unfold csi
          rw [hs, if_neg h32, hd1]
          simp only
          rw [if_pos hc]
          unfold meaning meaningN
          rw [e1, e2, e3]
          revert hx
          generalize numsOf (cut1 59 ((l.take (scan l)).drop 2)).1 (cut1 59 ((l.take (scan l)).drop 2)).2.1 (cut1 59 ((l.take (scan l)).drop 2)).2.2 = x
          intro hx
          match x, hx with
          | none, _ => rfl
          | some (n, m), hx =>
            simp only
            rw [if_neg (hx n m rfl), if_neg (hx n m rfl)]
        -- what meaning answers
        cases hx : numsOf (cut1 59 ((l.take (scan l)).drop 2)).1 (cut1 59 ((l.take (scan l)).drop 2)).2.1 (cut1 59 ((l.take (scan l)).drop 2)).2.2 with
        | none =>
          refine long ?_ (fun n m h => by rw [hx] at h; cases h)
          rw [e]; unfold meaning meaningN; rw [hx]; simp only [unknown, List.length_take]; omega
        | some p =>
          obtain ⟨n, m⟩ := p
          by_cases hp : (l.getD (scan l) 0).toNat = 126 ∧ n = 200 ∧ (cut1 59 ((l.take (scan l)).drop 2)).2.2 = false
          · have em : meaning true l (scan l) = paste true l (scan l + 1) := by
              unfold meaning meaningN; rw [hx]; simp only; rw [if_pos hp]
            have hge6 : scan l + 1 ≤ (paste true l (scan l + 1)).2 := by
              unfold paste
              split
              · simp only; omega
              · rw [if_pos rfl]; simp only; omega
            have hle := paste_le true l (scan l + 1)
            -- the piece is at least the beginning
            have hsc : scan (l.take (csi true l).2) = scan l := by
              rw [e, em]
              refine scan_at h3 (scan_le l) (fun j hj hlt' => ?_) ?_
              · obtain ⟨c', h6, h7⟩ := scan_take l j hj hlt'
                exact ⟨c', by rw [List.getElem?_take, if_pos (by omega)]; exact h6, h7⟩
              · right; right
                refine ⟨c, ?_, ?_⟩
                · rw [List.getElem?_take, if_pos (by omega)]
                  have := congrArg List.head? hd
                  rw [List.head?_drop] at this
                  exact this
                · unfold inside; simp; omega
            have hkeep : ∀ k, k ≤ scan l + 1 → (l.take (csi true l).2).take k = l.take k := by
              intro k hk
              rw [List.take_take]; congr 1; rw [e, em]; omega
            have hget : (l.take (csi true l).2).getD (scan l) 0 = l.getD (scan l) 0 := by
              simp only [List.getD_eq_getElem?_getD]
              rw [List.getElem?_take, if_pos (by rw [e, em]; omega)]
            have hdd : ∃ r', (l.take (csi true l).2).drop (scan l) = c :: r' := by
              rw [List.drop_take, hd]
              obtain ⟨q, hq⟩ : ∃ q, (csi true l).2 - scan l = q + 1 := ⟨(csi true l).2 - scan l - 1, by rw [e, em]; omega⟩
              rw [hq]; exact ⟨_, rfl⟩
            obtain ⟨r', hdd⟩ := hdd
            have : csi true (l.take (csi true l).2) = paste true (l.take (csi true l).2) (scan l + 1) := by
              rw [csi_mean true (by rw [hsc]; exact h32) (by rw [hsc]; exact hdd) hc, hsc]
              unfold meaning meaningN
              rw [hget, hkeep (scan l) (by omega), hx]
              simp only
              rw [if_pos hp]
            rw [this]
            have e9 : csi true l = paste true l (scan l + 1) := e.trans em
            rw [e9]
            exact paste_take (l := l) (scan l + 1)
          · refine long ?_ (fun n' m' h => by rw [hx] at h; cases h; exact hp)
            rw [e]; unfold meaning meaningN; rw [hx]; simp only; rw [if_neg hp]
            split
            · simp only [unknown, List.length_take]; omega
            · rfl
      · refine short ?_ hc
        rw [e, if_neg hc]
        by_cases h2' : scan l = 2
        · rw [if_pos h2']; simp [withM, h2']
        · rw [if_neg h2']; simp only [unknown, List.length_take]; omega
    · have e : csi true l = if scan l = 2 then withM 91 else unknown (l.take (scan l)) := by
        unfold csi; rw [if_neg h32, List.drop_of_length_le hge]; simp
      have hl : scan l = l.length := by omega
      have hn : (csi true l).2 = l.length := by
        rw [e]
        by_cases h2' : scan l = 2
        · rw [if_pos h2']; simp only [withM]; omega
        · rw [if_neg h2']; simp only [unknown, List.length_take]; omega
      rw [hn, List.take_length]
theorem ss3_take {l : List UInt8} (h2 : 2 ≤ l.length) : ss3 true (l.take (ss3 true l).2) = ss3 true l := by
  rcases Nat.lt_or_ge 2 l.length with hlt | hge
  · obtain ⟨c, r, hd⟩ : ∃ e r, l.drop 2 = e :: r := List.exists_cons_of_ne_nil (fun e => by
      have : (l.drop 2).length = 0 := by rw [e]; rfl
      rw [List.length_drop] at this; omega)
    have e : ss3 true l = if c.toNat < 64 ∨ 126 < c.toNat then withM 79 else if (lettered c.toNat).kind ≠ 0 ∧ (lettered c.toNat).kind ≠ 15 then (lettered c.toNat, 3) else unknown (l.take 3) := by
      unfold ss3; rw [hd]
    by_cases hc : c.toNat < 64 ∨ 126 < c.toNat
    · rw [if_pos hc] at e
      rw [e]
      unfold ss3
      rw [List.drop_of_length_le (by simp [withM]; omega)]
      rfl
    · rw [if_neg hc] at e
      have hn : (ss3 true l).2 = 3 := by
        rw [e]; split
        · rfl
        · simp only [unknown, List.length_take]; omega
      rw [hn, e]
      unfold ss3
      have : (l.take 3).drop 2 = [c] := by rw [List.drop_take, hd]; rfl
      rw [this]
      simp only
      rw [if_neg hc, List.take_take]
      rfl
  · have : l.take (ss3 true l).2 = l := by
      have e : ss3 true l = withM 79 := by unfold ss3; rw [List.drop_of_length_le hge]; rfl
      rw [e]; exact List.take_of_length_le hge
    rw [this]
/-- A key's own bytes are read as it. -/
theorem rd_take (l : List UInt8) : rd true (l.take (rd true l).2) = rd true l := by
  match l with
  | [] => rfl
  | [a] =>
    by_cases h1 : a.toNat ≠ 27
    · have e : rd true [a] = plain true [a] := by simp only [rd]; rw [if_pos h1]
      have hp := plain_pos [a] (by simp)
      have := plain_le true [a]
      rw [e, List.take_of_length_le (by simp only [List.length_cons, List.length_nil]; omega), e]
    · have e : rd true [a] = (named 3, 1) := by simp only [rd]; rw [if_neg h1]; rfl
      rw [e]; exact e
  | a :: c :: r =>
    have hx : ∀ n, 2 ≤ n → (a :: c :: r).take n = a :: c :: r.take (n - 2) := by
      intro n hn
      obtain ⟨m, rfl⟩ : ∃ m, n = m + 2 := ⟨n - 2, by omega⟩
      rfl
    by_cases h1 : a.toNat ≠ 27
    · have e : rd true (a :: c :: r) = plain true (a :: c :: r) := by simp only [rd]; rw [if_pos h1]
      have e' : ∀ s, rd true (a :: s) = plain true (a :: s) := fun s => by simp only [rd]; rw [if_pos h1]
      have hp := plain_pos (a :: c :: r) (by simp)
      have ht := plain_take (l := a :: c :: r) (by simp)
      rw [e]
      obtain ⟨n, hn⟩ : ∃ n, (plain true (a :: c :: r)).2 = n + 1 := ⟨(plain true (a :: c :: r)).2 - 1, by omega⟩
      rw [hn, List.take_succ_cons] at ht ⊢
      rw [e', ht]
    · by_cases h2 : c.toNat = 27
      · have e : rd true (a :: c :: r) = (named 3, 1) := by simp only [rd]; rw [if_neg h1, if_pos h2]
        rw [e]; simp only [List.take_succ_cons, List.take_zero, rd]; rw [if_neg h1]; rfl
      by_cases h3 : c.toNat = 91
      · have e : ∀ s, rd true (a :: c :: s) = csi true (a :: c :: s) := fun s => by simp only [rd]; rw [if_neg h1, if_neg h2, if_pos h3]
        have ht := csi_take (l := a :: c :: r) (by simp)
        have hge : 2 ≤ (csi true (a :: c :: r)).2 := by
          have h3' := scan_two (a :: c :: r)
          have h5 := scan_len (a :: c :: r) (by simp)
          unfold csi
          split
          · simp only [unknown, List.length_take, List.length_cons] at h5 ⊢; omega
          · split
            · rename_i h; simp only [Bool.true_eq_false, if_false]
              split
              · simp [withM]
              · simp only [unknown, List.length_take]; omega
            · split
              · unfold meaning meaningN
                split
                · simp only [unknown, List.length_take, List.length_cons] at h5 ⊢; omega
                · split
                  · unfold paste
                    split
                    · simp only; omega
                    · rw [if_pos rfl]; simp
                  · split
                    · simp only [unknown, List.length_take, List.length_cons] at h5 ⊢; omega
                    · simp only; omega
              · split
                · simp [withM]
                · simp only [unknown, List.length_take, List.length_cons] at h5 ⊢; omega
        rw [e, hx _ hge] at *
        rw [e, ht]
      by_cases h4 : c.toNat = 79
      · have e : ∀ s, rd true (a :: c :: s) = ss3 true (a :: c :: s) := fun s => by simp only [rd]; rw [if_neg h1, if_neg h2, if_neg h3, if_pos h4]
        have ht := ss3_take (l := a :: c :: r) (by simp)
        have hge : 2 ≤ (ss3 true (a :: c :: r)).2 := by
          unfold ss3
          split
          · simp [withM]
          · rename_i hd
            have : 3 ≤ (a :: c :: r).length := by
              rcases Nat.lt_or_ge 2 (a :: c :: r).length with g | g
              · exact g
              · rw [List.drop_of_length_le g] at hd; cases hd
            split
            · simp [withM]
            · split
              · simp
              · simp only [unknown, List.length_take]; omega
        rw [e, hx _ hge] at *
        rw [e, ht]
      · have e : ∀ s, s ≠ [] → rd true (a :: c :: s) = ({ (plain true (c :: s)).1 with mt := true }, (plain true (c :: s)).2 + 1) := fun s _ => by
          have := plain_pos (c :: s) (by simp)
          simp only [rd]; rw [if_neg h1, if_neg h2, if_neg h3, if_neg h4, if_neg (by omega)]
        have e' : ∀ s, rd true (a :: c :: s) = ({ (plain true (c :: s)).1 with mt := true }, (plain true (c :: s)).2 + 1) := fun s => by
          have := plain_pos (c :: s) (by simp)
          simp only [rd]; rw [if_neg h1, if_neg h2, if_neg h3, if_neg h4, if_neg (by omega)]
        have ht := plain_take (l := c :: r) (by simp)
        have hp := plain_pos (c :: r) (by simp)
        rw [e']
        simp only [List.take_succ_cons]
        obtain ⟨n, hn⟩ : ∃ n, (plain true (c :: r)).2 = n + 1 := ⟨(plain true (c :: r)).2 - 1, by omega⟩
        rw [hn, List.take_succ_cons] at ht ⊢
        rw [e', ht, hn]
theorem rd_pos (l : List UInt8) (h : l ≠ []) : (rd true l).2 ≠ 0 := by
  match l with
  | [] => exact absurd rfl h
  | [a] =>
    simp only [rd]
    split
    · have := plain_pos [a] (by simp); omega
    · simp
  | a :: c :: r =>
    simp only [rd]
    split
    · have := plain_pos (a :: c :: r) (by simp); omega
    · split
      · simp
      · split
        · have h3' := scan_two (a :: c :: r)
          have h5 := scan_len (a :: c :: r) (by simp)
          unfold csi
          split
          · simp only [unknown, List.length_take, List.length_cons] at h5 ⊢; omega
          · split
            · simp only [Bool.true_eq_false, if_false]
              split
              · simp [withM]
              · simp only [unknown, List.length_take]; omega
            · split
              · unfold meaning meaningN
                split
                · simp only [unknown, List.length_take, List.length_cons] at h5 ⊢; omega
                · split
                  · unfold paste
                    split
                    · simp only; omega
                    · rw [if_pos rfl]; simp
                  · split
                    · simp only [unknown, List.length_take, List.length_cons] at h5 ⊢; omega
                    · simp only; omega
              · split
                · simp [withM]
                · simp only [unknown, List.length_take, List.length_cons] at h5 ⊢; omega
        · split
          · unfold ss3
            split
            · simp [withM]
            · split
              · simp [withM]
              · split
                · simp
                · simp only [unknown, List.length_take, List.length_cons]; omega
          · have := plain_pos (c :: r) (by simp)
            rw [if_neg (by omega)]; simp
/-- What could be told of l is told of l and more; then what is left is read on with it. -/
theorem run_app (n : Nat) : ∀ (l t : List UInt8) (b : Bool), l.length ≤ n → run b (l ++ t) = ((run false l).1 ++ (run b ((run false l).2 ++ t)).1, (run b ((run false l).2 ++ t)).2) := by
  induction n with
  | zero =>
    intro l t b h
    have : l = [] := List.eq_nil_of_length_eq_zero (by omega)
    subst this
    rfl
  | succ n ih =>
    intro l t b h
    by_cases h0 : (rd false l).2 = 0
    · rw [run_stop h0]; rfl
    · have hr := rd_app b t h0
      have hle := rd_le false l
      rw [run_go h0, run_go (by rw [hr]; exact h0), hr, take_app t hle, List.drop_append_of_le_length hle, ih (l.drop (rd false l).2) t b (by simp only [List.length_drop]; omega)]
      rfl
theorem run_feed (l t : List UInt8) (b : Bool) : run b (l ++ t) = ((run false l).1 ++ (run b (held false l ++ t)).1, (run b (held false l ++ t)).2) := run_app _ l t b (Nat.le_refl _)
theorem run_all (n : Nat) : ∀ l : List UInt8, l.length ≤ n → (run true l).2 = [] := by
  induction n with
  | zero =>
    intro l h
    have : l = [] := List.eq_nil_of_length_eq_zero (by omega)
    subst this; rfl
  | succ n ih =>
    intro l h
    by_cases hl : l = []
    · subst hl; rfl
    · rw [run_go (rd_pos l hl)]
      exact ih _ (by have := rd_pos l hl; simp only [List.length_drop]; omega)
theorem run_true (l : List UInt8) : (run true l).2 = [] := run_all _ l (Nat.le_refl _)
/-- The pieces and what is left, one behind the other, are the bytes. -/
theorem run_join (n : Nat) : ∀ (b : Bool) (l : List UInt8), l.length ≤ n → ((run b l).1.map (·.2)).flatten ++ (run b l).2 = l := by
  induction n with
  | zero =>
    intro b l h
    have : l = [] := List.eq_nil_of_length_eq_zero (by omega)
    subst this; rfl
  | succ n ih =>
    intro b l h
    by_cases h0 : (rd b l).2 = 0
    · rw [run_stop h0]; rfl
    · rw [run_go h0]
      simp only [List.map_cons, List.flatten_cons, List.append_assoc]
      rw [ih b _ (by simp only [List.length_drop]; omega), List.take_append_drop]
end Go.Proofs.YtjjilhfebkeoeaaDoor.Ky
/- The first unit of a text, in the library's own words: plain. -/
namespace Go.Proofs.YtjjilhfebkeoeaaDoor.Ky
set_option linter.unusedVariables false
open Go.Lib

theorem lead_T (n : Nat) : lead n = if firstT n < 240 then (firstT n % 8, accLo (firstT n / 16), accHi (firstT n / 16)) else (0, 0, 0) := by
  rcases Nat.lt_or_ge n 194 with h | h
  · have e : lead n = (0, 0, 0) := by unfold lead; rw [if_pos h]
    have f : ¬ firstT n < 240 := by
      unfold firstT
      split
      · omega
      · first | omega | (rw [if_pos (by omega)]; omega)
    rw [e, if_neg f]
  rcases Nat.lt_or_ge n 224 with h2 | h2
  · rw [firstT_C2 ⟨h, h2⟩]; unfold lead; rw [if_neg (by omega), if_pos h2]; rfl
  by_cases h3 : n = 224
  · subst h3; rfl
  by_cases h4 : n = 237
  · subst h4; rfl
  rcases Nat.lt_or_ge n 240 with h5 | h5
  · rw [firstT_E1 (by omega)]; unfold lead; rw [if_neg (by omega), if_neg (by omega), if_neg h3, if_neg h4, if_pos h5]; rfl
  by_cases h6 : n = 240
  · subst h6; rfl
  rcases Nat.lt_or_ge n 244 with h7 | h7
  · rw [firstT_F1 (by omega)]; unfold lead; rw [if_neg (by omega), if_neg (by omega), if_neg h3, if_neg h4, if_neg (by omega), if_neg h6, if_pos h7]; rfl
  by_cases h8 : n = 244
  · subst h8; rfl
  · have e : lead n = (0, 0, 0) := by unfold lead; rw [if_neg (by omega), if_neg (by omega), if_neg h3, if_neg h4, if_neg (by omega), if_neg h6, if_neg (by omega), if_neg h8]
    have f : firstT n = 241 := by
      unfold firstT
      rw [if_neg (by omega), if_neg (by omega), if_neg (by omega), if_neg h3, if_neg (by omega), if_neg h4, if_neg (by omega), if_neg h6, if_neg (by omega), if_neg h8]
    rw [e, f]; rfl
theorem sec_iff (a b : UInt8) : sec a b = true ↔ ((lead a.toNat).2.1 ≤ b.toNat ∧ b.toNat ≤ (lead a.toNat).2.2) := by unfold sec; simp
theorem cont_iff (b : UInt8) : cont b = true ↔ (128 ≤ b.toNat ∧ b.toNat ≤ 191) := by unfold cont; simp
/-- What the library answers, off the text's bytes. -/
def dec (l : List UInt8) : Nat × Nat := decodeN l.length (l.getD 0 0).toNat (l.getD 1 0).toNat (l.getD 2 0).toNat (l.getD 3 0).toNat
theorem get_bang (s : ByteArray) (k : Nat) : s.get! k = s.data.toList.getD k 0 := by
  cases s with
  | mk d =>
    show d[k]! = _
    rw [List.getD_eq_getElem?_getD, Array.getElem?_toList]
    simp [getElem!_def]
    cases d[k]? <;> rfl
theorem dec_go (s : ByteArray) (h : 0 < s.size) : Lib.decodeGo s = dec s.data.toList := by
  unfold Lib.decodeGo dec
  rw [if_neg (by omega), decode_at, get_bang, get_bang, get_bang, get_bang]
  simp
theorem dec_fst (a : UInt8) (r : List UInt8) : ((fst (a :: r)).1 < 0 ∧ dec (a :: r) = (65533, 1)) ∨ (0 ≤ (fst (a :: r)).1 ∧ dec (a :: r) = ((fst (a :: r)).1.toNat, (fst (a :: r)).2) ∧ ((fst (a :: r)).1 = 65533 → (fst (a :: r)).2 ≠ 1)) := by
  have hlt : ∀ x : UInt8, x.toNat < 256 := fun x => x.toNat_lt
  by_cases h : a.toNat < 128
  · right
    rw [fst_ascii r h]
    refine ⟨by simp, ?_, by simp; omega⟩
    unfold dec
    simp only [List.getD_cons_zero, decodeN]
    rw [if_pos h]; simp
  by_cases hx : firstT a.toNat < 240
  · have hl := lead_T a.toNat
    rw [if_pos hx] at hl
    have hd : dec (a :: r) = slowN (r.length + 1) a.toNat (r.getD 0 0).toNat (r.getD 1 0).toNat (r.getD 2 0).toNat (lead a.toNat).1 (lead a.toNat).2.1 (lead a.toNat).2.2 := by
      rw [hl, slow_eq _ _ _ _ _ (by omega) (hlt _) (hlt _) (hlt _) hx]; rfl
    rw [hd]
    unfold slowN
    rcases lead_cases a.toNat with h0 | h0 | h0 | h0
    · rw [hl] at h0
      rcases firstT_cases a.toNat with g | g | g | g | g | g | g | g | g <;> rw [g] at h0 hx <;> simp at h0 hx
    · rw [h0]
      match r with
      | [] => left; rw [fst_s1 (.inl h0)]; exact ⟨by decide, by rw [if_pos (by simp)]⟩
      | b :: r =>
        rw [fst_two b r h0, if_neg (show ¬ (b :: r).length + 1 < 2 from by simp)]
        simp only [List.getD_cons_zero]
        by_cases hs : sec a b = true
        · have hs' := (sec_iff a b).mp hs
          right; rw [if_pos hs, if_neg (show ¬ (b.toNat < (lead a.toNat).2.1 ∨ (lead a.toNat).2.2 < b.toNat) from by omega), if_pos (show 2 ≤ 2 from by decide)]
          refine ⟨by simp, by simp only [two, Int.toNat_natCast], by simp⟩
        · have hs' := (not_congr (sec_iff a b)).mp hs
          left; rw [if_neg hs, if_pos (by omega)]; exact ⟨by decide, rfl⟩
    · rw [h0]
      match r with
      | [] => left; rw [fst_s1 (.inr (.inl h0))]; exact ⟨by decide, by rw [if_pos (by simp)]⟩
      | [b] => left; rw [fst_s2 b (.inl h0)]; exact ⟨by decide, by rw [if_pos (by simp)]⟩
      | b :: c :: r =>
        rw [fst_thr b c r h0, if_neg (show ¬ (b :: c :: r).length + 1 < 3 from by simp)]
        simp only [List.getD_cons_zero, List.getD_cons_succ]
        by_cases hs : sec a b = true
        · have hs' := (sec_iff a b).mp hs
          rw [if_neg (show ¬ (b.toNat < (lead a.toNat).2.1 ∨ (lead a.toNat).2.2 < b.toNat) from by omega), if_neg (show ¬ 3 ≤ 2 from by decide)]
          by_cases hc : cont c = true
          · have hc' := (cont_iff c).mp hc
            right; rw [if_pos ⟨hs, hc⟩, if_neg (show ¬ (c.toNat < 128 ∨ 191 < c.toNat) from by omega), if_pos (show 3 ≤ 3 from by decide)]
            refine ⟨by simp, by simp only [thr, Int.toNat_natCast], by simp⟩
          · have hc' := (not_congr (cont_iff c)).mp hc
            left; rw [if_neg (fun g => hc g.2), if_pos (by omega)]; exact ⟨by decide, rfl⟩
        · have hs' := (not_congr (sec_iff a b)).mp hs
          left; rw [if_neg (fun g => hs g.1), if_pos (by omega)]; exact ⟨by decide, rfl⟩
    · rw [h0]
      match r with
      | [] => left; rw [fst_s1 (.inr (.inr h0))]; exact ⟨by decide, by rw [if_pos (by simp)]⟩
      | [b] => left; rw [fst_s2 b (.inr h0)]; exact ⟨by decide, by rw [if_pos (by simp)]⟩
      | [b, c] => left; rw [fst_s3 b c h0]; exact ⟨by decide, by rw [if_pos (by simp)]⟩
      | b :: c :: d :: r =>
        rw [fst_fou b c d r h0, if_neg (show ¬ (b :: c :: d :: r).length + 1 < 4 from by simp)]
        simp only [List.getD_cons_zero, List.getD_cons_succ]
        by_cases hs : sec a b = true
        · have hs' := (sec_iff a b).mp hs
          rw [if_neg (show ¬ (b.toNat < (lead a.toNat).2.1 ∨ (lead a.toNat).2.2 < b.toNat) from by omega), if_neg (show ¬ 4 ≤ 2 from by decide)]
          by_cases hc : cont c = true
          · have hc' := (cont_iff c).mp hc
            rw [if_neg (show ¬ (c.toNat < 128 ∨ 191 < c.toNat) from by omega), if_neg (show ¬ 4 ≤ 3 from by decide)]
            by_cases hd : cont d = true
            · have hd' := (cont_iff d).mp hd
              right; rw [if_pos ⟨hs, hc, hd⟩, if_neg (by omega)]
              refine ⟨by simp, by simp only [fou, Int.toNat_natCast], by simp⟩
            · have hd' := (not_congr (cont_iff d)).mp hd
              left; rw [if_neg (fun g => hd g.2.2), if_pos (by omega)]; exact ⟨by decide, rfl⟩
          · have hc' := (not_congr (cont_iff c)).mp hc
            left; rw [if_neg (fun g => hc g.2.1), if_pos (by omega)]; exact ⟨by decide, rfl⟩
        · have hs' := (not_congr (sec_iff a b)).mp hs
          left; rw [if_neg (fun g => hs g.1), if_pos (by omega)]; exact ⟨by decide, rfl⟩
  · left
    have hb : firstT a.toNat = 241 := by
      rcases firstT_cases a.toNat with g | g | g | g | g | g | g | g | g
      · exfalso
        unfold firstT at g
        rw [if_neg h] at g
        repeat' split at g
        all_goals omega
      · exact g
      all_goals rw [g] at hx; exact absurd (by decide) hx
    have hl := lead_T a.toNat
    rw [if_neg hx] at hl
    rw [fst_none r h (by rw [hl])]
    refine ⟨by decide, ?_⟩
    unfold dec
    exact bad_eq _ _ _ _ _ (hlt _) hb
theorem fst_bound (l : List UInt8) : -1 ≤ (fst l).1 ∧ (fst l).1 ≤ 1114111 ∧ (fst l).2 ≤ 4 := by
  match l with
  | [] => exact ⟨by decide, by decide, by decide⟩
  | a :: r =>
    have hlt : ∀ x : UInt8, x.toNat < 256 := fun x => x.toNat_lt
    rcases fst_cases a r with ⟨h1, h2, _⟩ | ⟨h1, h2⟩ | ⟨b, r', rfl, h0, hs, h2, _⟩ | ⟨b, c, r', rfl, h0, hs, hc, h2, _⟩ | ⟨b, c, d, r', rfl, h0, hs, hc, hd, h2, _⟩
    · rw [h2]; refine ⟨?_, ?_, ?_⟩ <;> simp only <;> omega
    · rw [h2]; refine ⟨?_, ?_, ?_⟩ <;> simp
    · rw [h2]; refine ⟨?_, ?_, ?_⟩ <;> simp only [two] <;> omega
    · rw [h2]; refine ⟨?_, ?_, ?_⟩ <;> simp only [thr] <;> omega
    · rw [h2]
      have g := hlt a
      have ha : a.toNat ≤ 244 := by
        rcases Nat.lt_or_ge 244 a.toNat with g | g
        · exfalso
          have : (lead a.toNat).1 = 0 := by unfold lead; rw [if_neg (by omega), if_neg (by omega), if_neg (by omega), if_neg (by omega), if_neg (by omega), if_neg (by omega), if_neg (by omega), if_neg (by omega)]
          omega
        · exact g
      have hb := (sec_iff a b).mp hs
      have h240 : 240 ≤ a.toNat := by
        rcases Nat.lt_or_ge a.toNat 240 with g | g
        · exfalso
          unfold lead at h0
          repeat' split at h0
          all_goals omega
        · exact g
      have hbb : a.toNat = 244 → 128 ≤ b.toNat ∧ b.toNat ≤ 143 := by
        intro e; rw [e] at hb; exact hb
      refine ⟨?_, ?_, ?_⟩ <;> simp only [fou]
      · omega
      · rcases Nat.lt_or_ge a.toNat 244 with g | g
        · omega
        · have := hbb (by omega); omega
      · omega
end Go.Proofs.YtjjilhfebkeoeaaDoor.Ky
/- The bytes of a key: plain. -/
namespace Go.Proofs.YtjjilhfebkeoeaaDoor.Ky
set_option linter.unusedVariables false

def encL (c : Int) : List UInt8 := if Go.Lib.validRune c = true then Go.Lib.encodeRune c else []
def ctl (c : Int) : List UInt8 := if c = 63 then [127] else if 64 ≤ c ∧ c < 96 then [UInt8.ofNat (c - 64).toNat] else []
def mnum (k : Key) : Nat := 1 + (if k.shift = true then 1 else 0) + (if k.mt = true then 2 else 0) + (if k.ctrl = true then 4 else 0)
def fitsB (k l : Key) : Bool := decide (l.kind = k.kind) && !decide (l.kind = 0) && decide (l.char = k.char)
def findL (k : Key) : Option Nat := (List.range' 65 26).find? fun b => fitsB k (lettered b)
def findN (k : Key) : Option Nat := (List.range' 1 29).find? fun n => fitsB k (numbered n)
def letterF (k : Key) (b : Nat) : List UInt8 := if mnum k = 1 ∨ (k.kind = 15 ∧ mnum k = 2) then [27, 91, UInt8.ofNat b] else [27, 91, 49, 59] ++ Go.Lib.decDigits (mnum k) ++ [UInt8.ofNat b]
def numberF (k : Key) (n : Nat) : List UInt8 := if mnum k = 1 then [27, 91] ++ Go.Lib.decDigits n ++ [126] else [27, 91] ++ Go.Lib.decDigits n ++ [59] ++ Go.Lib.decDigits (mnum k) ++ [126]
def seqL (k : Key) : List UInt8 := match findL k with
  | some b => letterF k b
  | none => match findN k with
    | some n => numberF k n
    | none => []
def lead0 (k : Key) : List UInt8 := if k.kind = 1 then encL k.char else if k.kind = 2 then ctl k.char else if k.kind = 4 ∨ k.kind = 18 then k.text else if k.kind = 3 then [27] else if k.kind = 17 then pbeg ++ k.text ++ pend else seqL k
def form (k : Key) : List UInt8 := if k.mt = true ∧ (k.kind = 1 ∨ k.kind = 2 ∨ k.kind = 4) then 27 :: lead0 k else lead0 k
def bytesOf (k : Key) : List UInt8 × Bool := if form k = [] ∨ keysOf true (form k) ≠ [k] then ([], false) else (form k, true)

theorem mnum_le (k : Key) : 1 ≤ mnum k ∧ mnum k ≤ 8 := by unfold mnum; split <;> split <;> split <;> omega
theorem find_none_to {p : Nat → Bool} {a n : Nat} (h : ∀ j, a ≤ j → j < a + n → p j = false) : (List.range' a n).find? p = none := by
  rw [List.find?_eq_none]
  intro x hx
  rw [List.mem_range'_1] at hx
  rw [h x hx.1 hx.2]; simp
theorem find_some_at {p : Nat → Bool} : ∀ (n a b : Nat), a ≤ b → b < a + n → (∀ j, a ≤ j → j < b → p j = false) → p b = true → (List.range' a n).find? p = some b
  | 0, a, b, h1, h2, _, _ => absurd h2 (by omega)
  | n + 1, a, b, h1, h2, h3, h4 => by
    rw [List.range'_succ, List.find?_cons]
    by_cases e : a = b
    · subst e; rw [h4]
    · rw [h3 a (Nat.le_refl _) (by omega)]
      exact find_some_at n (a + 1) b (by omega) (by omega) (fun j g1 g2 => h3 j (by omega) g2) h4
theorem decDigits_one {n : Nat} (h : n < 10) : Go.Lib.decDigits n = [UInt8.ofNat (48 + n)] := by rw [Go.Lib.decDigits, dif_pos h]
theorem decDigits_two {n : Nat} (h : 10 ≤ n) (h2 : n < 100) : Go.Lib.decDigits n = [UInt8.ofNat (48 + n / 10), UInt8.ofNat (48 + n % 10)] := by
  rw [Go.Lib.decDigits, dif_neg (by omega), decDigits_one (by omega)]; rfl
theorem letter_1 {k : Key} {b : Nat} (h : mnum k = 1) : letterF k b = [27, 91, UInt8.ofNat b] := by unfold letterF; rw [if_pos (.inl h)]
theorem letter_15 {k : Key} {b : Nat} (h : mnum k = 2) (h15 : k.kind = 15) : letterF k b = [27, 91, UInt8.ofNat b] := by unfold letterF; rw [if_pos (.inr ⟨h15, h⟩)]
theorem letter_n {k : Key} {b m : Nat} (hm : mnum k = m) (h1 : m ≠ 1) (h2 : k.kind ≠ 15 ∨ m ≠ 2) : letterF k b = [27, 91, 49, 59] ++ Go.Lib.decDigits m ++ [UInt8.ofNat b] := by
  unfold letterF; rw [hm, if_neg (fun g => by rcases g with g | g; · exact h1 g
                                              · rcases h2 with h2 | h2; · exact h2 g.1
                                                · exact h2 g.2)]
theorem number_1 {k : Key} {n : Nat} (h : mnum k = 1) : numberF k n = [27, 91] ++ Go.Lib.decDigits n ++ [126] := by unfold numberF; rw [if_pos h]
theorem number_n {k : Key} {n m : Nat} (hm : mnum k = m) (h : m ≠ 1) : numberF k n = [27, 91] ++ Go.Lib.decDigits n ++ [59] ++ Go.Lib.decDigits m ++ [126] := by unfold numberF; rw [hm, if_neg h]
theorem seq_L {k : Key} {b : Nat} (h : findL k = some b) : seqL k = letterF k b := by unfold seqL; rw [h]
theorem seq_N {k : Key} {n : Nat} (h0 : findL k = none) (h : findN k = some n) : seqL k = numberF k n := by unfold seqL; rw [h0]; simp only; rw [h]
theorem seq_0 {k : Key} (h0 : findL k = none) (h : findN k = none) : seqL k = [] := by unfold seqL; rw [h0]; simp only; rw [h]
theorem dec_len {n : Nat} (h : n < 100) : (Go.Lib.decDigits n).length ≤ 10 := by
  by_cases g : n < 10
  · rw [decDigits_one g]; simp
  · rw [decDigits_two (by omega) h]; simp
end Go.Proofs.YtjjilhfebkeoeaaDoor.Ky
