/- The plain functions of bytes read as keys: a unit, a key with its bytes' number, all keys. Nothing of Go, nothing of memory. -/
import Derived.Lib.Index
import Derived.Lib.IndexLaws
namespace Go.Proofs.YtjjilhfebkeoeaaDoor.Ky

def cont (b : UInt8) : Bool := decide (128 ≤ b.toNat ∧ b.toNat ≤ 191)
/-- What a first byte asks for: how many bytes in all, and the range of the second. -/
def lead (n : Nat) : Nat × Nat × Nat :=
  if n < 194 then (0, 0, 0) else if n < 224 then (2, 128, 191) else if n = 224 then (3, 160, 191) else if n = 237 then (3, 128, 159) else if n < 240 then (3, 128, 191)
  else if n = 240 then (4, 144, 191) else if n < 244 then (4, 128, 191) else if n = 244 then (4, 128, 143) else (0, 0, 0)
def sec (a b : UInt8) : Bool := decide ((lead a.toNat).2.1 ≤ b.toNat ∧ b.toNat ≤ (lead a.toNat).2.2)
def two (a b : Nat) : Nat := a % 32 * 64 + b % 64
def thr (a b c : Nat) : Nat := a % 16 * 4096 + b % 64 * 64 + c % 64
def fou (a b c d : Nat) : Nat := a % 8 * 262144 + b % 64 * 4096 + c % 64 * 64 + d % 64
/-- The unit that begins a text: its character (-1: a bad byte) and its bytes' number. -/
def fst : List UInt8 → Int × Nat
  | [] => (-1, 1)
  | a :: r => if a.toNat < 128 then ((a.toNat : Int), 1) else match (lead a.toNat).1, r with
    | 2, b :: _ => if sec a b = true then ((two a.toNat b.toNat : Nat), 2) else (-1, 1)
    | 3, b :: c :: _ => if sec a b = true ∧ cont c = true then ((thr a.toNat b.toNat c.toNat : Nat), 3) else (-1, 1)
    | 4, b :: c :: d :: _ => if sec a b = true ∧ cont c = true ∧ cont d = true then ((fou a.toNat b.toNat c.toNat d.toNat : Nat), 4) else (-1, 1)
    | _, _ => (-1, 1)
/-- Is it the beginning of an encoding, and not all of it? -/
def begun : List UInt8 → Bool
  | [] => false
  | [a] => decide (2 ≤ (lead a.toNat).1)
  | [a, b] => decide (3 ≤ (lead a.toNat).1) && sec a b
  | [a, b, c] => decide (4 ≤ (lead a.toNat).1) && sec a b && cont c
  | _ => false

structure Key where
  kind : Int
  char : Int
  ctrl : Bool
  mt : Bool
  shift : Bool
  text : List UInt8
deriving DecidableEq, Inhabited
def key0 : Key := ⟨0, 0, false, false, false, []⟩
def plain (last : Bool) (l : List UInt8) : Key × Nat := match l with
  | [] => (key0, 0)
  | a :: _ => if a.toNat = 127 then (⟨2, 63, true, false, false, []⟩, 1) else if a.toNat < 32 then (⟨2, (a.toNat : Int) + 64, true, false, false, []⟩, 1)
    else if last = false ∧ begun l = true then (key0, 0) else if (fst l).1 < 0 then (⟨4, 0, false, false, false, [a]⟩, 1) else (⟨1, (fst l).1, false, false, false, []⟩, (fst l).2)
def unknown (l : List UInt8) : Key × Nat := (⟨18, 0, false, false, false, l⟩, l.length)
def withM (c : Int) : Key × Nat := (⟨1, c, false, true, false, []⟩, 2)
def named (k : Int) : Key := ⟨k, 0, false, false, false, []⟩
def lettered (b : Nat) : Key :=
  if b = 65 then named 5 else if b = 66 then named 6 else if b = 67 then named 7 else if b = 68 then named 8 else if b = 72 then named 9 else if b = 70 then named 10
  else if 80 ≤ b ∧ b ≤ 83 then ⟨16, (b : Int) - 79, false, false, false, []⟩ else if b = 90 then ⟨15, 0, false, false, true, []⟩ else key0
def numbered (n : Int) : Key :=
  if n = 1 ∨ n = 7 then named 9 else if n = 2 then named 11 else if n = 3 then named 12 else if n = 4 ∨ n = 8 then named 10 else if n = 5 then named 13 else if n = 6 then named 14
  else if 11 ≤ n ∧ n ≤ 15 then ⟨16, n - 10, false, false, false, []⟩ else if 17 ≤ n ∧ n ≤ 21 then ⟨16, n - 11, false, false, false, []⟩ else if n = 23 ∨ n = 24 then ⟨16, n - 12, false, false, false, []⟩ else key0
def ss3 (last : Bool) (l : List UInt8) : Key × Nat := match l.drop 2 with
  | [] => if last = false then (key0, 0) else withM 79
  | c :: _ => if c.toNat < 64 ∨ 126 < c.toNat then withM 79 else if (lettered c.toNat).kind ≠ 0 ∧ (lettered c.toNat).kind ≠ 15 then (lettered c.toNat, 3) else unknown (l.take 3)
def inside (c : UInt8) : Bool := decide (32 ≤ c.toNat ∧ c.toNat ≤ 63)
/-- Where a CSI sequence's inside ends: at most 32. -/
def scan (l : List UInt8) : Nat := 2 + (((l.drop 2).take 30).takeWhile inside).length
def digit (c : UInt8) : Bool := decide (48 ≤ c.toNat ∧ c.toNat ≤ 57)
def dval (l : List UInt8) : Nat := l.foldl (fun n c => n * 10 + (c.toNat - 48)) 0
/-- One to three digits. -/
def num (l : List UInt8) : Option Nat := if l.all digit = true ∧ 1 ≤ l.length ∧ l.length ≤ 3 then some (dval l) else none
/-- At the first byte c: what is ahead of it, what is behind it, whether it is there. -/
def cut1 (c : UInt8) : List UInt8 → List UInt8 × List UInt8 × Bool
  | [] => ([], [], false)
  | x :: r => if x = c then ([], r, true) else (x :: (cut1 c r).1, (cut1 c r).2.1, (cut1 c r).2.2)
/-- The numbers of a CSI sequence's inside, and whether there are two. -/
def numsOf (first second : List UInt8) (two : Bool) : Option (Nat × Nat) :=
  if two = true then match num second with
    | some m => if 1 ≤ m ∧ m ≤ 8 then (num first).map fun n => (n, m) else none
    | none => none
  else if first = [] then some (1, 1) else (num first).map fun n => (n, 1)
def pend : List UInt8 := [27, 91, 50, 48, 49, 126]
def pbeg : List UInt8 := [27, 91, 50, 48, 48, 126]
def paste (last : Bool) (l : List UInt8) (at' : Nat) : Key × Nat :=
  if 0 ≤ Go.Lib.index (l.drop at') pend then (⟨17, 0, false, false, false, (l.drop at').take (Go.Lib.index (l.drop at') pend).toNat⟩, at' + (Go.Lib.index (l.drop at') pend).toNat + 6)
  else if last = true then (⟨17, 0, false, false, false, l.drop at'⟩, l.length) else (key0, 0)
def mods (k : Key) (m : Nat) : Key := { k with shift := decide (k.kind = 15) || decide ((m - 1) % 2 = 1), mt := decide ((m - 1) / 2 % 2 = 1), ctrl := decide ((m - 1) / 4 % 2 = 1) }
def endKey (e n : Nat) : Key := if e = 126 then numbered n else if n = 1 then lettered e else key0
def meaningN (last : Bool) (l : List UInt8) (i e : Nat) (x : Option (Nat × Nat)) (two : Bool) : Key × Nat := match x with
  | none => unknown (l.take (i + 1))
  | some (n, m) => if e = 126 ∧ n = 200 ∧ two = false then paste last l (i + 1) else if (endKey e n).kind = 0 then unknown (l.take (i + 1)) else (mods (endKey e n) m, i + 1)
def meaning (last : Bool) (l : List UInt8) (i : Nat) : Key × Nat :=
  meaningN last l i (l.getD i 0).toNat (numsOf (cut1 59 ((l.take i).drop 2)).1 (cut1 59 ((l.take i).drop 2)).2.1 (cut1 59 ((l.take i).drop 2)).2.2) (cut1 59 ((l.take i).drop 2)).2.2
def csi (last : Bool) (l : List UInt8) : Key × Nat :=
  if scan l = 32 then unknown (l.take 32) else match l.drop (scan l) with
  | [] => if last = false then (key0, 0) else if scan l = 2 then withM 91 else unknown (l.take (scan l))
  | e :: _ => if 64 ≤ e.toNat ∧ e.toNat ≤ 126 then meaning last l (scan l) else if scan l = 2 then withM 91 else unknown (l.take (scan l))
/-- The key that begins a text, and how many bytes made it; 0: it can't be told yet. -/
def rd (last : Bool) (l : List UInt8) : Key × Nat := match l with
  | [] => (key0, 0)
  | a :: r => if a.toNat ≠ 27 then plain last l else match r with
    | [] => if last = false then (key0, 0) else (named 3, 1)
    | b :: _ => if b.toNat = 27 then (named 3, 1) else if b.toNat = 91 then csi last l else if b.toNat = 79 then ss3 last l
      else if (plain last r).2 = 0 then (key0, 0) else ({ (plain last r).1 with mt := true }, (plain last r).2 + 1)
/-- All keys that can be told, each with its bytes; what is left. -/
def runN : Nat → Bool → List UInt8 → List (Key × List UInt8) × List UInt8
  | 0, _, l => ([], l)
  | f + 1, last, l => if (rd last l).2 = 0 then ([], l) else ((((rd last l).1, l.take (rd last l).2) :: (runN f last (l.drop (rd last l).2)).1), (runN f last (l.drop (rd last l).2)).2)
def run (last : Bool) (l : List UInt8) : List (Key × List UInt8) × List UInt8 := runN l.length last l
def keysOf (last : Bool) (l : List UInt8) : List Key := (run last l).1.map (·.1)
def piecesOf (last : Bool) (l : List UInt8) : List (List UInt8) := (run last l).1.map (·.2)
def held (last : Bool) (l : List UInt8) : List UInt8 := (run last l).2

theorem rd_nil (last : Bool) : rd last [] = (key0, 0) := rfl
theorem fst_pos (l : List UInt8) : 1 ≤ (fst l).2 := by
  unfold fst
  split
  · simp
  · split
    · simp
    · split <;> first | (split <;> simp) | simp
theorem fst_le (l : List UInt8) (h : l ≠ []) : (fst l).2 ≤ l.length := by
  unfold fst
  split
  · exact absurd rfl h
  · split
    · simp
    · split <;> first | (split <;> simp) | simp
theorem plain_le (last : Bool) (l : List UInt8) : (plain last l).2 ≤ l.length := by
  unfold plain
  split
  · simp
  · rename_i a r
    have := fst_le (a :: r) (by simp)
    split
    · simp
    · split
      · simp
      · split
        · simp
        · split
          · simp
          · exact this
theorem plain_pos (l : List UInt8) (h : l ≠ []) : 1 ≤ (plain true l).2 := by
  unfold plain
  split
  · exact absurd rfl h
  · rename_i a r
    have := fst_pos (a :: r)
    split
    · simp
    · split
      · simp
      · split
        · rename_i h; simp at h
        · split
          · simp
          · exact this
theorem scan_le (l : List UInt8) : scan l ≤ 32 := by
  have h1 : (((l.drop 2).take 30).takeWhile inside).length ≤ ((l.drop 2).take 30).length := (List.takeWhile_sublist _).length_le
  simp only [List.length_take] at h1
  unfold scan; omega
theorem scan_len (l : List UInt8) (h : 2 ≤ l.length) : scan l ≤ l.length := by
  have h1 : (((l.drop 2).take 30).takeWhile inside).length ≤ ((l.drop 2).take 30).length := (List.takeWhile_sublist _).length_le
  simp only [List.length_take, List.length_drop] at h1
  unfold scan; omega
theorem scan_two (l : List UInt8) : 2 ≤ scan l := by unfold scan; omega
theorem unk_le (l : List UInt8) (n : Nat) : (unknown (l.take n)).2 ≤ l.length := by simp only [unknown, List.length_take]; omega
theorem unknown_len (l : List UInt8) : (unknown l).2 = l.length := rfl
theorem index_lt (s : List UInt8) (h : 0 ≤ Go.Lib.index s pend) : (Go.Lib.index s pend).toNat + 6 ≤ s.length := by
  have key : ∀ s : List UInt8, Go.Lib.index s pend = -1 ∨ (0 ≤ Go.Lib.index s pend ∧ Go.Lib.index s pend + 6 ≤ s.length) := by
    intro s
    induction s with
    | nil => left; rfl
    | cons b l ih =>
      unfold Go.Lib.index
      split
      · rename_i hp
        right
        have := (List.isPrefixOf_iff_prefix.mp hp).length_le
        simp only [pend, List.length_cons, List.length_nil] at this ⊢
        omega
      · split
        · left; rfl
        · rename_i hq
          right
          rcases ih with ih | ih
          · rw [ih] at hq; simp at hq
          · simp only [List.length_cons]; omega
  rcases key s with h1 | h1 <;> omega
theorem paste_le (last : Bool) (l : List UInt8) (i : Nat) : (paste last l i).2 ≤ l.length := by
  unfold paste
  split
  · rename_i h
    have := index_lt _ h
    simp only [List.length_drop] at this ⊢
    omega
  · split <;> simp
theorem csi_le (last : Bool) (l : List UInt8) (h : 2 ≤ l.length) : (csi last l).2 ≤ l.length := by
  have h1 := scan_len l h
  unfold csi
  split
  · exact unk_le _ _
  · split
    · split
      · simp
      · split
        · simpa [withM] using h
        · exact unk_le _ _
    · rename_i e r hd
      have h2 : scan l < l.length := by
        rcases Nat.lt_or_ge (scan l) l.length with g | g
        · exact g
        · rw [List.drop_of_length_le g] at hd; cases hd
      split
      · unfold meaning meaningN
        split
        · exact unk_le _ _
        · split
          · exact paste_le _ _ _
          · split
            · exact unk_le _ _
            · exact h2
      · split
        · simpa [withM] using h
        · exact unk_le _ _
theorem ss3_le (last : Bool) (l : List UInt8) (h : 2 ≤ l.length) : (ss3 last l).2 ≤ l.length := by
  unfold ss3
  split
  · split
    · simp
    · simpa [withM] using h
  · rename_i e r hd
    have h2 : 2 < l.length := by
      rcases Nat.lt_or_ge 2 l.length with g | g
      · exact g
      · rw [List.drop_of_length_le g] at hd; cases hd
    split
    · simpa [withM] using h
    · split
      · exact h2
      · exact unk_le _ _
theorem rd_le (last : Bool) (l : List UInt8) : (rd last l).2 ≤ l.length := by
  unfold rd
  split
  · simp
  · split
    · exact plain_le _ _
    · split
      · split <;> simp
      · split
        · simp
        · split
          · exact csi_le _ _ (by simp)
          · split
            · exact ss3_le _ _ (by simp)
            · split
              · simp
              · rename_i b r _ _ _ _
                have := plain_le last (b :: r)
                simp only [List.length_cons] at this ⊢
                omega
theorem runN_fuel (f : Nat) : ∀ (g : Nat) (last : Bool) (l : List UInt8), l.length ≤ f → l.length ≤ g → runN f last l = runN g last l := by
  induction f with
  | zero =>
    intro g last l h _
    have : l = [] := List.eq_nil_of_length_eq_zero (by omega)
    subst this
    cases g with
    | zero => rfl
    | succ g => rfl
  | succ f ih =>
    intro g last l h1 h2
    cases g with
    | zero =>
      have : l = [] := List.eq_nil_of_length_eq_zero (by omega)
      subst this
      rfl
    | succ g =>
      simp only [runN]
      by_cases h0 : (rd last l).2 = 0
      · rw [if_pos h0, if_pos h0]
      · rw [if_neg h0, if_neg h0, ih g last (l.drop (rd last l).2) (by simp only [List.length_drop]; omega) (by simp only [List.length_drop]; omega)]
theorem run_stop {last : Bool} {l : List UInt8} (h : (rd last l).2 = 0) : run last l = ([], l) := by
  unfold run
  cases l with
  | nil => rfl
  | cons a r => simp only [List.length_cons, runN]; rw [if_pos h]
theorem run_go {last : Bool} {l : List UInt8} (h : (rd last l).2 ≠ 0) : run last l = ((((rd last l).1, l.take (rd last l).2) :: (run last (l.drop (rd last l).2)).1), (run last (l.drop (rd last l).2)).2) := by
  unfold run
  cases l with
  | nil => exact absurd rfl h
  | cons a r =>
    have := rd_le last (a :: r)
    simp only [List.length_cons, runN]
    rw [if_neg h, runN_fuel r.length ((a :: r).drop (rd last (a :: r)).2).length last _ (by simp only [List.length_drop, List.length_cons]; omega) (Nat.le_refl _)]
theorem scan_take (l : List UInt8) : ∀ j, 2 ≤ j → j < scan l → ∃ c, l[j]? = some c ∧ inside c = true := by
  intro j hj hlt
  have key : ∀ (s : List UInt8) (i : Nat), i < (s.takeWhile inside).length → ∃ c, s[i]? = some c ∧ inside c = true := by
    intro s
    induction s with
    | nil => intro i hi; simp at hi
    | cons a r ih =>
      intro i hi
      by_cases ha : inside a = true
      · rw [List.takeWhile_cons_of_pos ha] at hi
        cases i with
        | zero => exact ⟨a, rfl, ha⟩
        | succ i => simpa using ih i (by simpa using hi)
      · rw [List.takeWhile_cons_of_neg ha] at hi; simp at hi
  obtain ⟨c, h1, h2⟩ := key ((l.drop 2).take 30) (j - 2) (by unfold scan at hlt; omega)
  refine ⟨c, ?_, h2⟩
  rw [List.getElem?_take] at h1
  split at h1
  · rw [List.getElem?_drop] at h1
    rwa [show 2 + (j - 2) = j from by omega] at h1
  · cases h1
/-- The loop's own way to the scan's end. -/
theorem scan_at {l : List UInt8} {i : Nat} (h2 : 2 ≤ i) (h32 : i ≤ 32) (hin : ∀ j, 2 ≤ j → j < i → ∃ c, l[j]? = some c ∧ inside c = true) (hend : i = 32 ∨ l.length ≤ i ∨ ∃ c, l[i]? = some c ∧ inside c = false) : scan l = i := by
  have key : ∀ (n : Nat) (s : List UInt8), n ≤ s.length → (∀ j, j < n → ∃ c, s[j]? = some c ∧ inside c = true) → (n = s.length ∨ ∃ c, s[n]? = some c ∧ inside c = false) → (s.takeWhile inside).length = n := by
    intro n
    induction n with
    | zero =>
      intro s _ _ he
      cases s with
      | nil => rfl
      | cons a r =>
        rcases he with he | ⟨c, h1, h2⟩
        · simp at he
        · simp only [List.getElem?_cons_zero, Option.some.injEq] at h1
          subst h1
          rw [List.takeWhile_cons_of_neg (by rw [h2]; simp)]; rfl
    | succ n ih =>
      intro s hn hi he
      cases s with
      | nil => simp at hn
      | cons a r =>
        obtain ⟨c, h1, h2⟩ := hi 0 (by omega)
        simp only [List.getElem?_cons_zero, Option.some.injEq] at h1
        subst h1
        rw [List.takeWhile_cons_of_pos h2, List.length_cons, ih r (by simpa using hn) (fun j hj => by simpa using hi (j + 1) (by omega)) (by
          rcases he with he | ⟨c, h3, h4⟩
          · left; simpa using he
          · right; exact ⟨c, by simpa using h3, h4⟩)]
  have hle : i ≤ l.length ∨ i = 2 := by
    rcases Nat.lt_or_ge 2 i with h | h
    · left
      obtain ⟨c, h1, _⟩ := hin (i - 1) (by omega) (by omega)
      obtain ⟨h3, _⟩ := List.getElem?_eq_some_iff.mp h1
      omega
    · right; omega
  have := key (i - 2) ((l.drop 2).take 30) (by simp only [List.length_take, List.length_drop]; omega) (fun j hj => by
      obtain ⟨c, h1, h2⟩ := hin (j + 2) (by omega) (by omega)
      refine ⟨c, ?_, h2⟩
      rw [List.getElem?_take, if_pos (by omega), List.getElem?_drop, Nat.add_comm]; exact h1) (by
      rcases hend with h | h | ⟨c, h1, h2'⟩
      · left; simp only [List.length_take, List.length_drop]; omega
      · left; simp only [List.length_take, List.length_drop]; omega
      · rcases Nat.lt_or_ge i 32 with g | g
        · right
          refine ⟨c, ?_, h2'⟩
          rw [List.getElem?_take, if_pos (by omega), List.getElem?_drop, show 2 + (i - 2) = i from by omega]; exact h1
        · left; simp only [List.length_take, List.length_drop]; omega)
  unfold scan; omega
end Go.Proofs.YtjjilhfebkeoeaaDoor.Ky
