/- The sums over places are the units', the clusters' and the cells' numbers; nothing of Go's memory. -/
import Derived.Test.YtoodidokjchplaaDoorMeQ
namespace Go.Proofs.YtoodidokjchplaaDoor.Un
set_option linter.unusedVariables false
set_option linter.unusedSimpArgs false
theorem cut_at {x : List UInt8} (n : Nat) : x.take n ++ x.drop n = x := List.take_append_drop n x
theorem take_n {x : List UInt8} (h : x ≠ []) : (x.take (fst x).2).length = (fst x).2 := by rw [List.length_take, Nat.min_eq_left (fst_le x h)]
/-- Behind a unit no unit goes over the place. -/
theorem std_next {p x : List UInt8} (h : Std p x) (hx : x ≠ []) : Std (p ++ x.take (fst x).2) (x.drop (fst x).2) := by
  intro j h1 hj
  have hn := take_n hx
  have hp := fst_pos x
  rw [List.length_append, hn] at hj
  rcases Nat.lt_trichotomy j (fst x).2 with g | g | g
  · rw [back_app (by omega)]
    have e : back j (x.take (fst x).2) ++ x.drop (fst x).2 = x.drop ((fst x).2 - j) := by
      unfold back
      rw [hn]
      obtain ⟨n, hnn⟩ : ∃ n, (fst x).2 = n := ⟨_, rfl⟩
      rw [hnn] at g hn ⊢
      have e2 := List.drop_append_of_le_length (l₁ := x.take n) (l₂ := x.drop n) (i := n - j) (by omega)
      rw [cut_at] at e2
      exact e2.symm
    rw [e, inside (by omega) (by omega)]
    exact h1
  · rw [back_app (by omega), back_all (by omega), cut_at]
    omega
  · rw [back_over (by omega), hn, List.append_assoc, cut_at]
    have := h (j - (fst x).2) (by omega) (by omega)
    omega
/-- The unit ahead is the one that was just taken. -/
theorem pvC_next {p x : List UInt8} (h : Std p x) (hx : x ≠ []) : pvC (p ++ x.take (fst x).2) (x.drop (fst x).2) = some (fst x).1 := by
  have hn := take_n hx
  have hp := fst_pos x
  have h4 := fst_lt5 x
  have over : ∀ j, (fst x).2 < j → j ≤ (p ++ x.take (fst x).2).length → ¬ j ≤ szW (p ++ x.take (fst x).2) (x.drop (fst x).2) j := by
    intro j g hj
    rw [List.length_append, hn] at hj
    unfold szW
    rw [back_over (by omega), hn, List.append_assoc, cut_at]
    have := h (j - (fst x).2) (by omega) (by omega)
    omega
  have here : szW (p ++ x.take (fst x).2) (x.drop (fst x).2) (fst x).2 = (fst x).2 := by
    unfold szW
    rw [back_app (by omega), back_all (by omega), cut_at]
  have hl : (fst x).2 ≤ (p ++ x.take (fst x).2).length := by rw [List.length_append, hn]; omega
  have hJ : pvJ (p ++ x.take (fst x).2) (x.drop (fst x).2) = (fst x).2 := by
    unfold pvJ
    rcases (by omega : (fst x).2 = 4 ∨ (fst x).2 = 3 ∨ (fst x).2 = 2 ∨ (fst x).2 = 1) with e | e | e | e
    · rw [e] at here hl ⊢
      rw [if_pos ⟨hl, by rw [here]; exact Nat.le_refl _⟩]
    · have o4 := over 4 (by omega)
      rw [if_neg (fun g => o4 g.1 g.2)]
      rw [e] at here hl ⊢
      rw [if_pos ⟨hl, by rw [here]; exact Nat.le_refl _⟩]
    · have o4 := over 4 (by omega)
      have o3 := over 3 (by omega)
      rw [if_neg (fun g => o4 g.1 g.2), if_neg (fun g => o3 g.1 g.2)]
      rw [e] at here hl ⊢
      rw [if_pos ⟨hl, by rw [here]; exact Nat.le_refl _⟩]
    · have o4 := over 4 (by omega)
      have o3 := over 3 (by omega)
      have o2 := over 2 (by omega)
      rw [if_neg (fun g => o4 g.1 g.2), if_neg (fun g => o3 g.1 g.2), if_neg (fun g => o2 g.1 g.2), e]
  unfold pvC
  rw [if_neg (by omega), hJ, back_app (by omega), back_all (by omega), cut_at]
/-- Inside a unit nothing is counted. -/
theorem g4_in {ψ : List UInt8 → List UInt8 → Int} (hψ : ∀ p x, stW p x = false → ψ p x = 0) {y p : List UInt8} (n : Nat) : ∀ (v u : List UInt8), u ≠ [] → (u ++ v).length = n → (fst (u ++ v ++ y)).2 = n → g4 ψ (p ++ u) v y = 0
  | [], u, _, _, _ => rfl
  | c :: v, u, hu, hl, hf => by
    have h1 := List.length_pos_iff.mpr hu
    have h4 := fst_lt5 (u ++ (c :: v) ++ y)
    have hz : ψ (p ++ u) (c :: v ++ y) = 0 := by
      refine hψ _ _ (stW_no (j := u.length) h1 ?_ (by rw [List.length_append]; omega) ?_)
      · rw [List.length_append, List.length_cons] at hl; omega
      · rw [back_app (Nat.le_refl _), back_all (Nat.le_refl _), ← List.append_assoc, hf, ← hl, List.length_append, List.length_cons]; omega
    have ih := g4_in hψ (y := y) (p := p) n v (u ++ [c]) (by simp) (by rw [← hl]; simp) (by rw [← hf]; simp)
    show ψ (p ++ u) (c :: v ++ y) + g4 ψ (p ++ u ++ [c]) v y = 0
    rw [hz, List.append_assoc, ih]; rfl
theorem gsum_unit {ψ : List UInt8 → List UInt8 → Int} (hψ : ∀ p x, stW p x = false → ψ p x = 0) (p : List UInt8) {x : List UInt8} (hx : x ≠ []) :
    gsum ψ p x = ψ p x + gsum ψ (p ++ x.take (fst x).2) (x.drop (fst x).2) := by
  have hn := take_n hx
  have hp := fst_pos x
  match x, hx with
  | c :: r, hx =>
    obtain ⟨m, hm⟩ : ∃ m, (fst (c :: r)).2 = m + 1 := ⟨(fst (c :: r)).2 - 1, by omega⟩
    have hle := fst_le (c :: r) hx
    have e : (c :: r) = [c] ++ (r.take m ++ r.drop m) := by rw [List.take_append_drop]; rfl
    have hz : g4 ψ (p ++ [c]) (r.take m) (r.drop m) = 0 := by
      refine g4_in hψ (m + 1) (r.take m) [c] (by simp) ?_ ?_
      · rw [List.length_append, List.length_take]; simp only [List.length_cons, List.length_nil] at hle ⊢; omega
      · rw [List.append_assoc, ← e, hm]
    rw [hm]
    show ψ p (c :: r) + gsum ψ (p ++ [c]) r = ψ p (c :: r) + gsum ψ (p ++ (c :: r).take (m + 1)) ((c :: r).drop (m + 1))
    rw [List.take_succ_cons, List.drop_succ_cons]
    conv => lhs; rw [← List.take_append_drop m r]
    rw [gsum_app, hz]
    simp
theorem zU (p x : List UInt8) (h : stW p x = false) : psiU p x = 0 := by unfold psiU; rw [if_neg (by rw [h]; simp)]
theorem zC (p x : List UInt8) (h : stW p x = false) : psiC p x = 0 := by unfold psiC; rw [if_neg (by rw [h]; simp)]
theorem zX (p x : List UInt8) (h : stW p x = false) : psiX p x = 0 := by unfold psiX; rw [if_neg (by rw [h]; simp)]
/-- A line feed behind a carriage return: the byte and the unit. -/
theorem lf_byte (x : List UInt8) : lf (unitsOf x) = true ↔ x.head? = some 10 := by
  match x with
  | [] => simp [units_nil, lf]
  | a :: r =>
    rw [units_cons (by simp)]
    simp only [lf, decide_eq_true_eq, List.head?_cons, Option.some.injEq]
    constructor
    · intro h
      have h1 := (fst_small (a := a) (r := r) (by omega) (by omega)).1
      have : a.toNat = 10 := by omega
      exact UInt8.toNat_inj.mp this
    · rintro rfl
      rw [fst_ascii r (by decide)]
      rfl
theorem conn (n : Nat) : ∀ (x p : List UInt8), x.length ≤ n → Std p x →
    gsum psiU p x = (unitsOf x).length ∧ gsum psiC p x = nCl (pvC p x) (unitsOf x) ∧ gsum psiX p x = xCl (pvC p x) (unitsOf x) := by
  induction n with
  | zero =>
    intro x p h _
    have : x = [] := List.eq_nil_of_length_eq_zero (by omega)
    subst this
    exact ⟨rfl, by simp [gsum, units_nil, nCl], by simp [gsum, units_nil, xCl]⟩
  | succ n ih =>
    intro x p h hs
    by_cases hx : x = []
    · subst hx
      exact ⟨rfl, by simp [gsum, units_nil, nCl], by simp [gsum, units_nil, xCl]⟩
    · have hp := fst_pos x
      have hl := List.length_pos_iff.mpr hx
      obtain ⟨i1, i2, i3⟩ := ih (x.drop (fst x).2) (p ++ x.take (fst x).2) (by rw [List.length_drop]; omega) (std_next hs hx)
      rw [pvC_next hs hx] at i2 i3
      have hst := stW_yes hs
      rw [gsum_unit zU p hx, gsum_unit zC p hx, gsum_unit zX p hx, i1, i2, i3, units_cons hx]
      refine ⟨?_, ?_, ?_⟩
      · unfold psiU; rw [if_pos hst, List.length_cons]; omega
      · unfold psiC
        rw [if_pos hst]
        show _ = (((if gluO (pvC p x) (fst x).1 = true then 0 else 1) + nCl (some (fst x).1) (unitsOf (x.drop (fst x).2)) : Nat) : Int)
        split <;> simp
      · unfold psiX
        rw [if_pos hst]
        show _ = (if gluO (pvC p x) (fst x).1 = true then 0 else if (fst x).1 = 13 ∧ lf (unitsOf (x.drop (fst x).2)) = true then 0 else celOf (fst x).1) + xCl (some (fst x).1) (unitsOf (x.drop (fst x).2))
        congr 1
        by_cases g : (fst x).1 = 13
        · match x, hx with
          | a :: r, _ =>
            have h1 := (fst_small (a := a) (r := r) (by omega) (by omega)).2.1
            rw [h1]
            simp only [lf_byte]
        · have e1 : ¬ ((fst x).1 = 13 ∧ (x.drop 1).head? = some 10) := fun k => g k.1
          have e2 : ¬ ((fst x).1 = 13 ∧ lf (unitsOf (x.drop (fst x).2)) = true) := fun k => g k.1
          rw [if_neg e1, if_neg e2]
theorem std_nil (x : List UInt8) : Std [] x := fun j h1 h2 => by simp at h2; omega
theorem pvC_nil (x : List UInt8) : pvC [] x = none := rfl
def cU (l : List UInt8) : Nat := (unitsOf l).length
def cC (l : List UInt8) : Nat := nCl none (unitsOf l)
def cX (l : List UInt8) : Int := xCl none (unitsOf l)
theorem gU (l : List UInt8) : gsum psiU [] l = cU l := (conn l.length l [] (Nat.le_refl _) (std_nil l)).1
theorem gC (l : List UInt8) : gsum psiC [] l = cC l := (conn l.length l [] (Nat.le_refl _) (std_nil l)).2.1
theorem gX (l : List UInt8) : gsum psiX [] l = cX l := (conn l.length l [] (Nat.le_refl _) (std_nil l)).2.2
/-- The last and the first sixteen bytes. -/
def tl (l : List UInt8) : List UInt8 := back 16 l
def hd (l : List UInt8) : List UInt8 := l.take 16
theorem seamU (a b : List UInt8) : (cU (a ++ b) : Int) - cU a - cU b = cU (tl a ++ hd b) - cU (tl a) - cU (hd b) := by have := seam16 locU a b; rw [gU, gU, gU, gU, gU, gU] at this; exact this
theorem seamC (a b : List UInt8) : (cC (a ++ b) : Int) - cC a - cC b = cC (tl a ++ hd b) - cC (tl a) - cC (hd b) := by have := seam16 locC a b; rw [gC, gC, gC, gC, gC, gC] at this; exact this
theorem seamX (a b : List UInt8) : cX (a ++ b) - cX a - cX b = cX (tl a ++ hd b) - cX (tl a) - cX (hd b) := by have := seam16 locX a b; rw [gX, gX, gX, gX, gX, gX] at this; exact this
end Go.Proofs.YtoodidokjchplaaDoor.Un
