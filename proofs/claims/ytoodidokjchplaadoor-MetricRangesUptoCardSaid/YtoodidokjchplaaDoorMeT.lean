/- Places of a text at which units and clusters begin; the clusters one by one; nothing of Go's memory. -/
import Derived.Test.YtoodidokjchplaaDoorMeS
namespace Go.Proofs.YtoodidokjchplaaDoor.Un
set_option linter.unusedVariables false
set_option linter.unusedSimpArgs false
def szAt (l : List UInt8) (j : Nat) : Nat := (fst (l.drop j)).2
def chAt (l : List UInt8) (j : Nat) : Int := (fst (l.drop j)).1
/-- The unit within which, or at whose beginning, a place lies. -/
def arFrom (l : List UInt8) (i : Nat) : Nat → Nat → Nat × Nat
  | 0, _ => (i, if i = l.length then i else i + szAt l i)
  | n + 1, j => if i < j + szAt l j then (j, j + szAt l j) else arFrom l i n (j + 1)
def arL (l : List UInt8) (i : Nat) : Nat × Nat := arFrom l i (min i 3) (i - min i 3)
/-- A unit begins here, or the text ends. -/
def Stt (l : List UInt8) (i : Nat) : Prop := ∀ j, j < i → j + szAt l j ≤ i
theorem sz_lt5 (l : List UInt8) (j : Nat) : szAt l j ≤ 4 := fst_lt5 _
theorem sz_pos (l : List UInt8) (j : Nat) : 1 ≤ szAt l j := fst_pos _
theorem sz_le {l : List UInt8} {j : Nat} (h : j < l.length) : j + szAt l j ≤ l.length := by
  have := fst_le (l.drop j) (fun e => by have := congrArg List.length e; rw [List.length_drop, List.length_nil] at this; omega)
  rw [List.length_drop] at this
  unfold szAt; omega
theorem stt0 (l : List UInt8) : Stt l 0 := fun j h => absurd h (Nat.not_lt_zero _)
theorem stt_std {l : List UInt8} {i : Nat} (hi : i ≤ l.length) : Stt l i ↔ Std (l.take i) (l.drop i) := by
  have e : ∀ j, j ≤ i → back j (l.take i) ++ l.drop i = l.drop (i - j) := by
    intro j hj
    unfold back
    rw [List.length_take, Nat.min_eq_left hi]
    have e2 := List.drop_append_of_le_length (l₁ := l.take i) (l₂ := l.drop i) (i := i - j) (by rw [List.length_take, Nat.min_eq_left hi]; omega)
    rw [List.take_append_drop] at e2
    exact e2.symm
  constructor
  · intro h j h1 hj
    rw [List.length_take, Nat.min_eq_left hi] at hj
    rw [e j hj]
    have := h (i - j) (by omega)
    unfold szAt at this
    omega
  · intro h j hj
    have := h (i - j) (by omega) (by rw [List.length_take, Nat.min_eq_left hi]; omega)
    rw [e (i - j) (by omega), show i - (i - j) = j from by omega] at this
    unfold szAt; omega
theorem stt_next {l : List UInt8} {i : Nat} (h : Stt l i) (hi : i < l.length) : Stt l (i + szAt l i) := by
  intro j hj
  rcases Nat.lt_trichotomy j i with g | g | g
  · have := h j g; have := sz_pos l i; omega
  · subst g; exact Nat.le_refl _
  · have e : szAt l j = 1 := by
      unfold szAt
      have := inside (x := l.drop i) (k := j - i) (by omega) (by unfold szAt at hj; omega)
      rw [List.drop_drop, show i + (j - i) = j from by omega] at this
      exact this
    omega
theorem ar_stop {l : List UInt8} {i : Nat} (h : Stt l i) : ∀ n j, j + n = i → arFrom l i n j = (i, if i = l.length then i else i + szAt l i)
  | 0, j, _ => rfl
  | n + 1, j, e => by
    unfold arFrom
    rw [if_neg (by have := h j (by omega); omega), ar_stop h n (j + 1) (by omega)]
theorem arL_stt {l : List UInt8} {i : Nat} (h : Stt l i) : arL l i = (i, if i = l.length then i else i + szAt l i) := ar_stop h _ _ (by omega)
theorem ar_range {l : List UInt8} {i : Nat} (hi : i ≤ l.length) : ∀ n j, j + n = i → (arFrom l i n j).1 ≤ i ∧ (arFrom l i n j).2 ≤ l.length + 4
  | 0, j, _ => by
    unfold arFrom
    have := sz_lt5 l i
    refine ⟨Nat.le_refl _, ?_⟩
    simp only
    split <;> omega
  | n + 1, j, e => by
    unfold arFrom
    split
    · have := sz_lt5 l j
      exact ⟨by simp only; omega, by simp only; omega⟩
    · exact ar_range hi n (j + 1) (by omega)
theorem arL_range {l : List UInt8} {i : Nat} (hi : i ≤ l.length) : (arL l i).1 ≤ i ∧ (arL l i).2 ≤ l.length + 4 := ar_range hi _ _ (by omega)
/-- At the place ahead of a beginning: the unit that ends here. -/
theorem ar_prev {l : List UInt8} {i : Nat} (h : Stt l i) (h0 : 0 < i) : ∀ n j, j + n = i - 1 → (∀ k, k < j → k + szAt l k ≤ i - 1) → (arFrom l (i - 1) n j).1 < i ∧ Stt l (arFrom l (i - 1) n j).1 ∧ (arFrom l (i - 1) n j).1 + szAt l (arFrom l (i - 1) n j).1 = i
  | 0, j, e, hk => by
    have e' : j = i - 1 := by omega
    subst e'
    have h1 := h (i - 1) (by omega)
    have h2 := sz_pos l (i - 1)
    show i - 1 < i ∧ Stt l (i - 1) ∧ i - 1 + szAt l (i - 1) = i
    exact ⟨by omega, fun k hk' => hk k hk', by omega⟩
  | n + 1, j, e, hk => by
    unfold arFrom
    by_cases g : i - 1 < j + szAt l j
    · rw [if_pos g]
      have h1 := h j (by omega)
      simp only
      refine ⟨by omega, fun k hk' => ?_, by omega⟩
      rcases Nat.lt_or_ge j (k + szAt l k) with g2 | g2
      · exfalso
        have e1 : szAt l j = 1 := by
          unfold szAt
          have := inside (x := l.drop k) (k := j - k) (by omega) (by unfold szAt at g2; omega)
          rw [List.drop_drop, show k + (j - k) = j from by omega] at this
          exact this
        omega
      · exact g2
    · rw [if_neg g]
      exact ar_prev h h0 n (j + 1) (by omega) (fun k hk' => by
        rcases Nat.lt_or_ge k j with g3 | g3
        · exact hk k g3
        · have : k = j := by omega
          subst this; omega)
theorem arL_prev {l : List UInt8} {i : Nat} (h : Stt l i) (h0 : 0 < i) : (arL l (i - 1)).1 < i ∧ Stt l (arL l (i - 1)).1 ∧ (arL l (i - 1)).1 + szAt l (arL l (i - 1)).1 = i :=
  ar_prev h h0 _ _ (by omega) (fun k hk => by have := sz_lt5 l k; omega)
theorem prev_only {l : List UInt8} {i p q : Nat} (hp : Stt l p) (hq : Stt l q) (ep : p + szAt l p = i) (eq : q + szAt l q = i) : p = q := by
  have h1 := sz_pos l p
  have h2 := sz_pos l q
  rcases Nat.lt_trichotomy p q with g | g | g
  · have := hq p g; omega
  · exact g
  · have := hp q g; omega
/-! Clusters. -/
/-- The bytes of the units that stick to a unit of this character. -/
def glN : Int → List (Int × Nat) → Nat
  | _, [] => 0
  | c, (d, n) :: r => if glue c d = true then n + glN d r else 0
/-- The units behind those. -/
def skU : Int → List (Int × Nat) → List (Int × Nat)
  | _, [] => []
  | c, (d, n) :: r => if glue c d = true then skU d r else (d, n) :: r
def clTo (l : List UInt8) (o : Nat) : Nat := o + szAt l o + glN (chAt l o) (unitsOf (l.drop (o + szAt l o)))
theorem units_at {l : List UInt8} {o : Nat} (h : o < l.length) : unitsOf (l.drop o) = (chAt l o, szAt l o) :: unitsOf (l.drop (o + szAt l o)) := by
  rw [units_cons (fun e => by have := congrArg List.length e; rw [List.length_drop, List.length_nil] at this; omega), List.drop_drop]
  rfl
theorem units_end {l : List UInt8} {o : Nat} (h : l.length ≤ o) : unitsOf (l.drop o) = [] := by rw [List.drop_of_length_le h]; rfl
/-- One more unit that sticks, or the end of the cluster. -/
theorem clTo_step {l : List UInt8} {o : Nat} (h : o < l.length) (h2 : o + szAt l o < l.length) (hg : glue (chAt l o) (chAt l (o + szAt l o)) = true) : clTo l o = clTo l (o + szAt l o) := by
  unfold clTo
  rw [units_at h2]
  show o + szAt l o + (if glue (chAt l o) (chAt l (o + szAt l o)) = true then _ else _) = _
  rw [if_pos hg]
  omega
theorem clTo_stop {l : List UInt8} {o : Nat} (h : o < l.length) (h2 : l.length ≤ o + szAt l o ∨ glue (chAt l o) (chAt l (o + szAt l o)) = false) : clTo l o = o + szAt l o := by
  unfold clTo
  rcases Nat.lt_or_ge (o + szAt l o) l.length with g | g
  · rw [units_at g]
    show o + szAt l o + (if glue (chAt l o) (chAt l (o + szAt l o)) = true then _ else _) = _
    rw [if_neg (by rw [h2.resolve_left (by omega)]; simp)]
    rfl
  · rw [units_end g]; rfl
/-- A cluster's end: a unit begins there, behind the units that stick; it is no further than the end. -/
theorem clTo_spec (n : Nat) : ∀ (l : List UInt8) (o : Nat), l.length - o ≤ n → o < l.length → Stt l o → o < clTo l o ∧ clTo l o ≤ l.length ∧ Stt l (clTo l o) ∧ unitsOf (l.drop (clTo l o)) = skU (chAt l o) (unitsOf (l.drop (o + szAt l o))) := by
  induction n with
  | zero => intro l o h1 h2; omega
  | succ n ih =>
    intro l o h1 h2 hs
    have hp := sz_pos l o
    have hle := sz_le h2
    by_cases g : o + szAt l o < l.length ∧ glue (chAt l o) (chAt l (o + szAt l o)) = true
    · obtain ⟨i1, i2, i3, i4⟩ := ih l (o + szAt l o) (by omega) g.1 (stt_next hs h2)
      rw [clTo_step h2 g.1 g.2]
      refine ⟨by omega, i2, i3, ?_⟩
      rw [i4, units_at g.1]
      show _ = if glue (chAt l o) (chAt l (o + szAt l o)) = true then _ else _
      rw [if_pos g.2]
    · have hst : l.length ≤ o + szAt l o ∨ glue (chAt l o) (chAt l (o + szAt l o)) = false := by
        rcases Nat.lt_or_ge (o + szAt l o) l.length with g2 | g2
        · right; simpa using fun h => g ⟨g2, h⟩
        · exact .inl g2
      rw [clTo_stop h2 hst]
      refine ⟨by omega, hle, stt_next hs h2, ?_⟩
      rcases Nat.lt_or_ge (o + szAt l o) l.length with g2 | g2
      · rw [units_at g2]
        show _ = if glue (chAt l o) (chAt l (o + szAt l o)) = true then _ else _
        rw [if_neg (fun h => g ⟨g2, h⟩)]
      · rw [units_end g2]; rfl
theorem clTo_at {l : List UInt8} {o : Nat} (h : o < l.length) (hs : Stt l o) : o < clTo l o ∧ clTo l o ≤ l.length ∧ Stt l (clTo l o) ∧ unitsOf (l.drop (clTo l o)) = skU (chAt l o) (unitsOf (l.drop (o + szAt l o))) := clTo_spec _ l o (Nat.le_refl _) h hs
/-- at, to, class, cells -/
abbrev C4 := Nat × Nat × Int × Int
/-- Is it CR, LF behind it? -/
def crlf (l : List UInt8) (o : Nat) : Bool := decide (chAt l o = 13) && decide ((l.drop (o + 1)).head? = some 10)
def clAt (l : List UInt8) (o : Nat) : C4 := (o, clTo l o, if crlf l o = true then 1 else clsOf (chAt l o), if crlf l o = true then 0 else celOf (chAt l o))
def clN : Nat → List UInt8 → Nat → List C4
  | 0, _, _ => []
  | f + 1, l, o => if l.length ≤ o then [] else clAt l o :: clN f l (clTo l o)
def clL (l : List UInt8) : List C4 := clN l.length l 0
theorem skC : ∀ (U : List (Int × Nat)) (c : Int), nCl (some c) U = nCl none (skU c U) ∧ xCl (some c) U = xCl none (skU c U)
  | [], c => ⟨rfl, rfl⟩
  | (d, n) :: r, c => by
    unfold skU
    by_cases g : glue c d = true
    · rw [if_pos g]
      obtain ⟨h1, h2⟩ := skC r d
      refine ⟨?_, ?_⟩
      · show (if glue c d = true then 0 else 1) + nCl (some d) r = _
        rw [if_pos g, Nat.zero_add]; exact h1
      · show (if glue c d = true then 0 else _) + xCl (some d) r = _
        rw [if_pos g, Int.zero_add]; exact h2
    · rw [if_neg g]
      refine ⟨?_, ?_⟩
      · show (if glue c d = true then 0 else 1) + nCl (some d) r = (if false = true then 0 else 1) + nCl (some d) r
        rw [if_neg g]; rfl
      · show (if glue c d = true then 0 else _) + xCl (some d) r = (if false = true then 0 else _) + xCl (some d) r
        rw [if_neg g]; rfl
/-- The sum of clusters' cells. -/
def sumC (L : List C4) : Int := (L.map (·.2.2.2)).sum
theorem crlf_lf {l : List UInt8} {o : Nat} (h : o < l.length) : crlf l o = true ↔ (chAt l o = 13 ∧ lf (unitsOf (l.drop (o + szAt l o))) = true) := by
  unfold crlf
  rw [Bool.and_eq_true, decide_eq_true_eq, decide_eq_true_eq]
  constructor
  · rintro ⟨h1, h2⟩
    have hd : l.drop o = l[o] :: l.drop (o + 1) := List.drop_eq_getElem_cons h
    have hs : szAt l o = 1 := by
      unfold szAt chAt at *
      rw [hd] at h1 ⊢
      exact (fst_small (by omega) (by omega)).2.1
    rw [hs]
    exact ⟨h1, (lf_byte _).mpr h2⟩
  · rintro ⟨h1, h2⟩
    have hd : l.drop o = l[o] :: l.drop (o + 1) := List.drop_eq_getElem_cons h
    have hs : szAt l o = 1 := by
      unfold szAt chAt at *
      rw [hd] at h1 ⊢
      exact (fst_small (by omega) (by omega)).2.1
    rw [hs] at h2
    exact ⟨h1, (lf_byte _).mp h2⟩
theorem clN_sums : ∀ (f : Nat) (l : List UInt8) (o : Nat), l.length - o ≤ f → Stt l o → (clN f l o).length = nCl none (unitsOf (l.drop o)) ∧ sumC (clN f l o) = xCl none (unitsOf (l.drop o))
  | 0, l, o, hf, hs => by
    rw [units_end (by omega)]
    exact ⟨rfl, rfl⟩
  | f + 1, l, o, hf, hs => by
    unfold clN
    by_cases h : l.length ≤ o
    · rw [if_pos h, units_end h]; exact ⟨rfl, rfl⟩
    · rw [if_neg h]
      obtain ⟨h1, h2, h3, h4⟩ := clTo_at (by omega : o < l.length) hs
      obtain ⟨i1, i2⟩ := clN_sums f l (clTo l o) (by omega) h3
      obtain ⟨k1, k2⟩ := skC (unitsOf (l.drop (o + szAt l o))) (chAt l o)
      rw [units_at (by omega)]
      rw [h4] at i1 i2
      refine ⟨?_, ?_⟩
      · rw [List.length_cons, i1, ← k1]
        show _ = (if false = true then 0 else 1) + nCl (some (chAt l o)) _
        simp; omega
      · show sumC (clAt l o :: clN f l (clTo l o)) = (if false = true then 0 else if chAt l o = 13 ∧ lf (unitsOf (l.drop (o + szAt l o))) = true then 0 else celOf (chAt l o)) + xCl (some (chAt l o)) _
        have e : sumC (clAt l o :: clN f l (clTo l o)) = (clAt l o).2.2.2 + sumC (clN f l (clTo l o)) := by simp [sumC]
        rw [e, i2, ← k2]
        congr 1
        show (if crlf l o = true then 0 else celOf (chAt l o)) = _
        simp only [crlf_lf (by omega : o < l.length)]
        simp
theorem clL_len (l : List UInt8) : (clL l).length = cC l := by have := (clN_sums l.length l 0 (by omega) (stt0 l)).1; rwa [List.drop_zero] at this
theorem clL_sum (l : List UInt8) : sumC (clL l) = cX l := by have := (clN_sums l.length l 0 (by omega) (stt0 l)).2; rwa [List.drop_zero] at this
/-- How the list goes on from a place. -/
theorem clN_more : ∀ (f g : Nat) (l : List UInt8) (o : Nat), l.length - o ≤ f → l.length - o ≤ g → Stt l o → clN f l o = clN g l o
  | 0, 0, l, o, _, _, _ => rfl
  | 0, g + 1, l, o, h, _, _ => by unfold clN; rw [if_pos (by omega)]
  | f + 1, 0, l, o, _, h, _ => by unfold clN; rw [if_pos (by omega)]
  | f + 1, g + 1, l, o, h1, h2, hs => by
    unfold clN
    by_cases h : l.length ≤ o
    · rw [if_pos h, if_pos h]
    · rw [if_neg h, if_neg h]
      obtain ⟨k1, k2, k3, k4⟩ := clTo_at (by omega : o < l.length) hs
      rw [clN_more f g l (clTo l o) (by omega) (by omega) k3]
def clFrom (l : List UInt8) (o : Nat) : List C4 := clN (l.length - o) l o
theorem clFrom_cons {l : List UInt8} {o : Nat} (h : o < l.length) (hs : Stt l o) : clFrom l o = clAt l o :: clFrom l (clTo l o) := by
  obtain ⟨k1, k2, k3, k4⟩ := clTo_at h hs
  unfold clFrom
  obtain ⟨n, hn⟩ : ∃ n, l.length - o = n + 1 := ⟨l.length - o - 1, by omega⟩
  rw [hn]
  conv => lhs; unfold clN
  rw [if_neg (by omega), clN_more n (l.length - clTo l o) l (clTo l o) (by omega) (Nat.le_refl _) k3]
theorem clFrom_nil {l : List UInt8} {o : Nat} (h : l.length ≤ o) : clFrom l o = [] := by
  unfold clFrom; rw [show l.length - o = 0 from by omega]; rfl
theorem clL_from (l : List UInt8) : clL l = clFrom l 0 := rfl
end Go.Proofs.YtoodidokjchplaaDoor.Un
