/- The tables of marks and wide characters as rows; nothing of Go's memory. -/
import Derived.Test.YtoodidokjchplaaDoorMeT
namespace Go.Proofs.YtoodidokjchplaaDoor.Un
set_option linter.unusedVariables false
set_option linter.unusedSimpArgs false
/-! The tables as rows. -/
def flT (t : List (Int × Int)) : List Int := t.flatMap fun r => [r.1, r.2]
theorem flT_len : ∀ t : List (Int × Int), (flT t).length = 2 * t.length
  | [] => rfl
  | r :: t => by have := flT_len t; simp only [flT, List.flatMap_cons, List.length_append, List.length_cons, List.length_nil] at *; omega
theorem flT_lo : ∀ (t : List (Int × Int)) (k : Nat), (flT t)[2 * k]? = t[k]?.map (·.1)
  | [], k => by simp [flT]
  | r :: t, 0 => by simp [flT]
  | r :: t, k + 1 => by have := flT_lo t k; show (r.1 :: r.2 :: flT t)[2 * k + 1 + 1]? = _; simpa using this
theorem flT_hi : ∀ (t : List (Int × Int)) (k : Nat), (flT t)[2 * k + 1]? = t[k]?.map (·.2)
  | [], k => by simp [flT]
  | r :: t, 0 => by simp [flT]
  | r :: t, k + 1 => by have := flT_hi t k; show (r.1 :: r.2 :: flT t)[2 * k + 1 + 1 + 1]? = _; simpa using this
/-- The ranges ascend. -/
def ascT : List (Int × Int) → Bool
  | (a, b) :: (c, d) :: r => decide (a ≤ b) && decide (b < c) && ascT ((c, d) :: r)
  | [(a, b)] => decide (a ≤ b)
  | [] => true
theorem ascT_tail {a b : Int} {t : List (Int × Int)} (h : ascT ((a, b) :: t) = true) : a ≤ b ∧ ascT t = true ∧ ∀ r ∈ t, b < r.1 := by
  induction t generalizing a b with
  | nil => simp only [ascT, decide_eq_true_eq] at h; exact ⟨h, rfl, by simp⟩
  | cons p t ih =>
    obtain ⟨c, d⟩ := p
    simp only [ascT, Bool.and_eq_true, decide_eq_true_eq] at h
    obtain ⟨h1, h2, h3⟩ := ih h.2
    refine ⟨h.1.1, h.2, ?_⟩
    intro r hr
    rcases List.mem_cons.mp hr with rfl | hr
    · exact h.1.2
    · have := h3 r hr; have := h.1.2; omega
/-- Where the ranges' ends begin to be at least c, there alone c may lie. -/
theorem inT_at (c : Int) : ∀ (t : List (Int × Int)) (k : Nat), ascT t = true → (∀ i r, i < k → t[i]? = some r → r.2 < c) → (∀ r, t[k]? = some r → c ≤ r.2) →
    inT t c = (match t[k]? with | some r => decide (r.1 ≤ c) | none => false)
  | [], k, _, _, _ => rfl
  | (a, b) :: t, 0, h, _, h2 => by
    obtain ⟨h3, h4, h5⟩ := ascT_tail h
    have hb := h2 (a, b) rfl
    have hn : inT t c = false := by
      unfold inT
      rw [List.any_eq_false]
      intro r hr
      have := h5 r hr
      simp only [Bool.and_eq_true, decide_eq_true_eq]
      simp only at hb
      omega
    show ((decide (a ≤ c) && decide (c ≤ b)) || inT t c) = decide (a ≤ c)
    simp only at hb
    rw [hn, decide_eq_true hb]
    simp
  | (a, b) :: t, k + 1, h, h1, h2 => by
    obtain ⟨h3, h4, h5⟩ := ascT_tail h
    have hb := h1 0 (a, b) (by omega) rfl
    have ih := inT_at c t k h4 (fun i r hi hr => h1 (i + 1) r (by omega) (by simpa using hr)) (fun r hr => h2 r (by simpa using hr))
    show ((decide (a ≤ c) && decide (c ≤ b)) || inT t c) = _
    simp only at hb
    rw [decide_eq_false (show ¬ c ≤ b by omega), ih]
    simp
theorem asc_le : ∀ (t : List (Int × Int)), ascT t = true → ∀ r ∈ t, r.1 ≤ r.2
  | [], _, r, hr => by simp at hr
  | (a, b) :: t, ht, r, hr => by
    obtain ⟨h3, h4, h5⟩ := ascT_tail ht
    rcases List.mem_cons.mp hr with rfl | hr
    · exact h3
    · exact asc_le t h4 r hr
theorem asc_lt : ∀ (t : List (Int × Int)) (a b : Nat) (x y : Int × Int), ascT t = true → a < b → t[a]? = some x → t[b]? = some y → x.2 < y.2
  | [], a, b, x, y, _, _, h, _ => by simp at h
  | p :: t, 0, b + 1, x, y, ht, _, h1, h2 => by
    obtain ⟨h3, h4, h5⟩ := ascT_tail (a := p.1) (b := p.2) ht
    rw [List.getElem?_cons_zero] at h1
    rw [List.getElem?_cons_succ] at h2
    cases h1
    have hm := List.mem_of_getElem? h2
    have := h5 y hm
    have := asc_le t h4 y hm
    omega
  | p :: t, a + 1, b + 1, x, y, ht, hab, h1, h2 => by
    obtain ⟨h3, h4, h5⟩ := ascT_tail (a := p.1) (b := p.2) ht
    rw [List.getElem?_cons_succ] at h1 h2
    exact asc_lt t a b x y h4 (by omega) h1 h2
def hiT (t : List (Int × Int)) (c : Int) (k : Nat) : Bool := match t[k]? with | some r => decide (c ≤ r.2) | none => true
theorem hiT_mono {t : List (Int × Int)} (c : Int) (ht : ascT t = true) (a b : Nat) (hab : a ≤ b) (hb : b < t.length) (h : hiT t c a = true) : hiT t c b = true := by
  rcases Nat.lt_or_ge a b with hlt | hge
  · have ea := List.getElem?_eq_getElem (show a < t.length by omega)
    have eb := List.getElem?_eq_getElem hb
    have hlt2 := asc_lt t a b _ _ ht hlt ea eb
    unfold hiT at h ⊢
    rw [ea] at h
    rw [eb]
    simp only [decide_eq_true_eq] at h ⊢
    omega
  · obtain rfl : a = b := by omega
    exact h
theorem inT_of {t : List (Int × Int)} (c : Int) (k : Nat) (ht : ascT t = true) (hk : k ≤ t.length) (h1 : ∀ i, i < k → hiT t c i = false) (h2 : ∀ i, k ≤ i → i < t.length → hiT t c i = true) :
    inT t c = (match t[k]? with | some r => decide (r.1 ≤ c) | none => false) := by
  refine inT_at c t k ht (fun i r hi hr => ?_) (fun r hr => ?_)
  · have := h1 i hi
    unfold hiT at this
    rw [hr] at this
    simp only [decide_eq_false_iff_not] at this
    omega
  · have := h2 k (Nat.le_refl _) (List.getElem?_eq_some_iff.mp hr).1
    unfold hiT at this
    rw [hr] at this
    simpa using this
end Go.Proofs.YtoodidokjchplaaDoor.Un
