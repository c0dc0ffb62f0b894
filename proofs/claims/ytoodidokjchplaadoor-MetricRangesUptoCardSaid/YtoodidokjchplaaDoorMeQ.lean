/- What a seam changes is seen by a few bytes at each side of it: sums over places; nothing of Go's memory. -/
import Derived.Test.YtoodidokjchplaaDoorMeP
namespace Go.Proofs.YtoodidokjchplaaDoor.Un
set_option linter.unusedVariables false
set_option linter.unusedSimpArgs false
/-- The last j bytes. -/
def back (j : Nat) (p : List UInt8) : List UInt8 := p.drop (p.length - j)
theorem back_len (j : Nat) (p : List UInt8) : (back j p).length = min j p.length := by unfold back; rw [List.length_drop]; omega
theorem back_all {j : Nat} {p : List UInt8} (h : p.length ≤ j) : back j p = p := by unfold back; rw [show p.length - j = 0 from by omega, List.drop_zero]
theorem back_app {j : Nat} {p q : List UInt8} (h : j ≤ q.length) : back j (p ++ q) = back j q := by
  unfold back
  rw [List.length_append, show p.length + q.length - j = p.length + (q.length - j) from by omega, ← List.drop_drop, List.drop_left]
theorem back_over {j : Nat} {p q : List UInt8} (h : q.length ≤ j) : back j (p ++ q) = back (j - q.length) p ++ q := by
  unfold back
  rw [List.length_append]
  by_cases g : j - q.length ≤ p.length
  · rw [List.drop_append_of_le_length (by omega)]
    congr 2; omega
  · rw [show p.length + q.length - j = 0 from by omega, show p.length - (j - q.length) = 0 from by omega, List.drop_zero, List.drop_zero]
theorem back_back {i j : Nat} (p : List UInt8) (h : i ≤ j) : back i (back j p) = back i p := by
  unfold back
  rw [List.length_drop, List.drop_drop]
  congr 1; omega
theorem back_snoc4 (p : List UInt8) (c : UInt8) : back 4 (back 4 p ++ [c]) = back 4 (p ++ [c]) := by
  rw [back_over (by simp), back_over (by simp)]
  simp only [List.length_cons, List.length_nil]
  rw [back_back p (by omega)]
/-- What stands at a place looks at four bytes ahead of it and four from it on. -/
def Loc (ψ : List UInt8 → List UInt8 → Int) : Prop := ∀ p x, ψ p x = ψ (back 4 p) (x.take 4)
def gsum (ψ : List UInt8 → List UInt8 → Int) : List UInt8 → List UInt8 → Int
  | _, [] => 0
  | p, c :: x => ψ p (c :: x) + gsum ψ (p ++ [c]) x
/-- The places of x alone, y standing behind it. -/
def g4 (ψ : List UInt8 → List UInt8 → Int) : List UInt8 → List UInt8 → List UInt8 → Int
  | _, [], _ => 0
  | p, c :: x, y => ψ p (c :: x ++ y) + g4 ψ (p ++ [c]) x y
variable {ψ : List UInt8 → List UInt8 → Int}
theorem gsum_app : ∀ (x p y : List UInt8), gsum ψ p (x ++ y) = g4 ψ p x y + gsum ψ (p ++ x) y
  | [], p, y => by simp [g4]
  | c :: x, p, y => by
    show ψ p (c :: (x ++ y)) + gsum ψ (p ++ [c]) (x ++ y) = ψ p (c :: x ++ y) + g4 ψ (p ++ [c]) x y + gsum ψ (p ++ c :: x) y
    rw [gsum_app x (p ++ [c]) y, List.append_assoc, List.singleton_append, List.cons_append]
    omega
theorem gsum_loc (h : Loc ψ) : ∀ (x p q : List UInt8), back 4 p = back 4 q → gsum ψ p x = gsum ψ q x
  | [], p, q, e => rfl
  | c :: x, p, q, e => by
    show ψ p (c :: x) + gsum ψ (p ++ [c]) x = ψ q (c :: x) + gsum ψ (q ++ [c]) x
    rw [h p, h q, e, gsum_loc h x (p ++ [c]) (q ++ [c]) (by rw [← back_snoc4 p, ← back_snoc4 q, e])]
theorem g4_far (h : Loc ψ) : ∀ (x p y z : List UInt8), 3 ≤ y.length → g4 ψ p x (y ++ z) = g4 ψ p x y
  | [], p, y, z, _ => rfl
  | c :: x, p, y, z, hy => by
    show ψ p (c :: x ++ (y ++ z)) + g4 ψ (p ++ [c]) x (y ++ z) = ψ p (c :: x ++ y) + g4 ψ (p ++ [c]) x y
    rw [g4_far h x (p ++ [c]) y z hy, h p (c :: x ++ (y ++ z)), h p (c :: x ++ y)]
    congr 2
    rw [← List.append_assoc]
    exact List.take_append_of_le_length (by simp; omega)
/-- The left text's beginning does not matter, seven bytes from the seam on. -/
theorem seam_left (h : Loc ψ) (p a b : List UInt8) (ha : 7 ≤ a.length) : gsum ψ [] (p ++ a ++ b) - gsum ψ [] (p ++ a) = gsum ψ [] (a ++ b) - gsum ψ [] a := by
  obtain ⟨a1, a2, rfl, h2⟩ : ∃ a1 a2, a = a1 ++ a2 ∧ a2.length = 3 := ⟨a.take (a.length - 3), a.drop (a.length - 3), (List.take_append_drop _ _).symm, by rw [List.length_drop]; omega⟩
  have h1 : 4 ≤ a1.length := by rw [List.length_append] at ha; omega
  have e1 : p ++ (a1 ++ a2) ++ b = (p ++ a1) ++ (a2 ++ b) := by simp
  have e2 : p ++ (a1 ++ a2) = (p ++ a1) ++ a2 := by simp
  have e3 : (a1 ++ a2) ++ b = a1 ++ (a2 ++ b) := by simp
  rw [e1, e2, e3, gsum_app (p ++ a1) [] (a2 ++ b), gsum_app (p ++ a1) [] a2, gsum_app a1 [] (a2 ++ b), gsum_app a1 [] a2, g4_far h _ _ a2 b (by omega), g4_far h _ _ a2 b (by omega), List.nil_append, List.nil_append]
  rw [gsum_loc h (a2 ++ b) (p ++ a1) a1 (back_app h1), gsum_loc h a2 (p ++ a1) a1 (back_app h1)]
  omega
/-- The right text's end does not matter. -/
theorem seam_right (h : Loc ψ) (a b q : List UInt8) (hb : 7 ≤ b.length) : gsum ψ [] (a ++ (b ++ q)) - gsum ψ [] (b ++ q) = gsum ψ [] (a ++ b) - gsum ψ [] b := by
  obtain ⟨b1, b2, rfl, h1⟩ : ∃ b1 b2, b = b1 ++ b2 ∧ b1.length = 4 := ⟨b.take 4, b.drop 4, (List.take_append_drop _ _).symm, by rw [List.length_take]; omega⟩
  have h2 : 3 ≤ b2.length := by rw [List.length_append] at hb; omega
  have e1 : a ++ (b1 ++ b2 ++ q) = (a ++ b1) ++ (b2 ++ q) := by simp
  have e2 : b1 ++ b2 ++ q = b1 ++ (b2 ++ q) := by simp
  have e3 : a ++ (b1 ++ b2) = (a ++ b1) ++ b2 := by simp
  rw [e1, e2, e3, gsum_app (a ++ b1) [] (b2 ++ q), gsum_app b1 [] (b2 ++ q), gsum_app (a ++ b1) [] b2, gsum_app b1 [] b2, g4_far h _ _ b2 q h2, g4_far h _ _ b2 q h2, List.nil_append, List.nil_append]
  rw [gsum_loc h (b2 ++ q) (a ++ b1) b1 (back_app (by omega))]
  have e4 : g4 ψ [] (a ++ b1) b2 + gsum ψ (a ++ b1) b2 - (g4 ψ [] b1 b2 + gsum ψ b1 b2) = g4 ψ [] (a ++ b1) b2 - g4 ψ [] b1 b2 := by rw [gsum_loc h b2 (a ++ b1) b1 (back_app (by omega))]; omega
  omega
/-- WHAT A SEAM CHANGES IS SEEN BY SIXTEEN BYTES AT EACH SIDE. -/
theorem seam16 (h : Loc ψ) (a b : List UInt8) : gsum ψ [] (a ++ b) - gsum ψ [] a - gsum ψ [] b = gsum ψ [] (back 16 a ++ b.take 16) - gsum ψ [] (back 16 a) - gsum ψ [] (b.take 16) := by
  have hl : gsum ψ [] (a ++ b) - gsum ψ [] a = gsum ψ [] (back 16 a ++ b) - gsum ψ [] (back 16 a) := by
    by_cases g : a.length ≤ 16
    · rw [back_all g]
    · have e : a = a.take (a.length - 16) ++ back 16 a := (List.take_append_drop _ _).symm
      have := seam_left h (a.take (a.length - 16)) (back 16 a) b (by rw [back_len]; omega)
      rw [← e] at this
      exact this
  have hr : gsum ψ [] (back 16 a ++ b) - gsum ψ [] b = gsum ψ [] (back 16 a ++ b.take 16) - gsum ψ [] (b.take 16) := by
    by_cases g : b.length ≤ 16
    · rw [List.take_of_length_le g]
    · have := seam_right h (back 16 a) (b.take 16) (b.drop 16) (by rw [List.length_take]; omega)
      rw [List.take_append_drop] at this
      exact this
  omega
/-! The three sums. -/
def szW (p x : List UInt8) (j : Nat) : Nat := (fst (back j p ++ x)).2
/-- Does a unit begin here? -/
def stW (p x : List UInt8) : Bool := (decide (p.length < 1) || decide (szW p x 1 ≤ 1)) && ((decide (p.length < 2) || decide (szW p x 2 ≤ 2)) && (decide (p.length < 3) || decide (szW p x 3 ≤ 3)))
/-- How far back the unit ahead begins. -/
def pvJ (p x : List UInt8) : Nat := if 4 ≤ p.length ∧ 4 ≤ szW p x 4 then 4 else if 3 ≤ p.length ∧ 3 ≤ szW p x 3 then 3 else if 2 ≤ p.length ∧ 2 ≤ szW p x 2 then 2 else 1
def pvC (p x : List UInt8) : Option Int := if p.length < 1 then none else some (fst (back (pvJ p x) p ++ x)).1
def psiU (p x : List UInt8) : Int := if stW p x = true then 1 else 0
def psiC (p x : List UInt8) : Int := if stW p x = true then (if gluO (pvC p x) (fst x).1 = true then 0 else 1) else 0
def psiX (p x : List UInt8) : Int := if stW p x = true then (if gluO (pvC p x) (fst x).1 = true then 0 else if (fst x).1 = 13 ∧ (x.drop 1).head? = some 10 then 0 else celOf (fst x).1) else 0
theorem fst_loc {t x : List UInt8} : fst (t ++ x.take 4) = fst (t ++ x) := by
  rw [← fst_take4 (t ++ x.take 4), ← fst_take4 (t ++ x)]
  congr 1
  rw [List.take_append, List.take_append, List.take_take, Nat.min_eq_left (by omega)]
theorem szW_loc (p x : List UInt8) {j : Nat} (h : j ≤ 4) : szW (back 4 p) (x.take 4) j = szW p x j := by
  unfold szW
  rw [fst_loc, back_back p h]
theorem len_loc (p : List UInt8) {j : Nat} (h : j ≤ 4) : ((back 4 p).length < j) = (p.length < j) := by
  rw [back_len]; exact propext (by omega)
theorem len_loc' (p : List UInt8) {j : Nat} (h : j ≤ 4) : (j ≤ (back 4 p).length) = (j ≤ p.length) := by
  rw [back_len]; exact propext (by omega)
theorem stW_loc (p x : List UInt8) : stW (back 4 p) (x.take 4) = stW p x := by
  unfold stW
  rw [szW_loc p x (by omega), szW_loc p x (by omega), szW_loc p x (by omega)]
  simp only [len_loc p (j := 1) (by omega), len_loc p (j := 2) (by omega), len_loc p (j := 3) (by omega)]
theorem pvJ_loc (p x : List UInt8) : pvJ (back 4 p) (x.take 4) = pvJ p x := by
  unfold pvJ
  rw [szW_loc p x (by omega), szW_loc p x (by omega), szW_loc p x (by omega)]
  simp only [len_loc' p (j := 4) (by omega), len_loc' p (j := 3) (by omega), len_loc' p (j := 2) (by omega)]
theorem pvJ_le (p x : List UInt8) : pvJ p x ≤ 4 := by
  unfold pvJ
  repeat' split
  all_goals omega
theorem pvC_loc (p x : List UInt8) : pvC (back 4 p) (x.take 4) = pvC p x := by
  unfold pvC
  rw [pvJ_loc, fst_loc, back_back p (pvJ_le p x)]
  simp only [len_loc p (j := 1) (by omega)]
theorem head_loc (x : List UInt8) : ((x.take 4).drop 1).head? = (x.drop 1).head? := by
  match x with
  | [] => rfl
  | [a] => rfl
  | a :: b :: r => rfl
theorem locU : Loc psiU := fun p x => by unfold psiU; rw [stW_loc]
theorem locC : Loc psiC := fun p x => by unfold psiC; rw [stW_loc, pvC_loc, fst_take4]
theorem locX : Loc psiX := fun p x => by unfold psiX; rw [stW_loc, pvC_loc, fst_take4, head_loc]
/-- No unit ahead goes over this place. -/
def Std (p x : List UInt8) : Prop := ∀ j, 1 ≤ j → j ≤ p.length → (fst (back j p ++ x)).2 ≤ j
theorem stW_yes {p x : List UInt8} (h : Std p x) : stW p x = true := by
  have g : ∀ j, 1 ≤ j → j ≤ 3 → (decide (p.length < j) || decide (szW p x j ≤ j)) = true := by
    intro j h1 h3
    by_cases hj : p.length < j
    · simp [hj]
    · have := h j h1 (by omega)
      rw [Bool.or_eq_true, decide_eq_true_eq, decide_eq_true_eq]
      exact .inr this
  unfold stW
  rw [g 1 (by omega) (by omega), g 2 (by omega) (by omega), g 3 (by omega) (by omega)]; rfl
theorem stW_no {p x : List UInt8} {j : Nat} (h1 : 1 ≤ j) (h3 : j ≤ 3) (hp : j ≤ p.length) (h : j < (fst (back j p ++ x)).2) : stW p x = false := by
  have g : (decide (p.length < j) || decide (szW p x j ≤ j)) = false := by
    rw [Bool.or_eq_false_iff, decide_eq_false_iff_not, decide_eq_false_iff_not]
    exact ⟨by omega, by show ¬ (fst (back j p ++ x)).2 ≤ j; omega⟩
  unfold stW
  rcases (by omega : j = 1 ∨ j = 2 ∨ j = 3) with rfl | rfl | rfl <;> rw [g] <;> simp
end Go.Proofs.YtoodidokjchplaaDoor.Un
