/- KeysTexts: what the law says, of bytes alone. -/
import Derived.Test.YtjjilhfebkeoeaaDoorKzC
import Derived.Lib.IndexLaws
namespace Go.Proofs.YtjjilhfebkeoeaaDoor.Ky
set_option linter.unusedVariables false
set_option linter.unusedSimpArgs false
/-- All units of a text. -/
def unitsN : Nat → List UInt8 → List (Int × Nat)
  | 0, _ => []
  | f + 1, l => if l = [] then [] else fst l :: unitsN f (l.drop (fst l).2)
def unitsOf (l : List UInt8) : List (Int × Nat) := unitsN l.length l
theorem unitsN_more : ∀ (f g : Nat) (l : List UInt8), l.length ≤ f → l.length ≤ g → unitsN f l = unitsN g l
  | 0, 0, l, _, _ => rfl
  | 0, g + 1, l, h, _ => by have : l = [] := List.eq_nil_of_length_eq_zero (by omega); subst this; simp [unitsN]
  | f + 1, 0, l, _, h => by have : l = [] := List.eq_nil_of_length_eq_zero (by omega); subst this; simp [unitsN]
  | f + 1, g + 1, l, h1, h2 => by
    unfold unitsN
    by_cases h : l = []
    · rw [if_pos h, if_pos h]
    · rw [if_neg h, if_neg h]
      have hp := fst_pos l
      have hl := List.length_pos_iff.mpr h
      rw [unitsN_more f g (l.drop (fst l).2) (by rw [List.length_drop]; omega) (by rw [List.length_drop]; omega)]
theorem units_nil : unitsOf [] = [] := rfl
theorem units_cons {l : List UInt8} (h : l ≠ []) : unitsOf l = fst l :: unitsOf (l.drop (fst l).2) := by
  have hl := List.length_pos_iff.mpr h
  have hp := fst_pos l
  unfold unitsOf
  obtain ⟨n, hn⟩ : ∃ n, l.length = n + 1 := ⟨l.length - 1, by omega⟩
  rw [hn]
  conv => lhs; unfold unitsN
  rw [if_neg h, unitsN_more n (l.drop (fst l).2).length _ (by rw [List.length_drop]; omega) (Nat.le_refl _)]
theorem units_len (n : Nat) : ∀ l : List UInt8, l.length ≤ n → (unitsOf l).length ≤ l.length := by
  induction n with
  | zero => intro l h; have : l = [] := List.eq_nil_of_length_eq_zero (by omega); subst this; simp [units_nil]
  | succ n ih =>
    intro l h
    by_cases h0 : l = []
    · subst h0; simp [units_nil]
    · have hl := List.length_pos_iff.mpr h0
      have hp := fst_pos l
      have := ih (l.drop (fst l).2) (by rw [List.length_drop]; omega)
      rw [units_cons h0, List.length_cons]
      rw [List.length_drop] at this; omega
theorem fst_bad {l : List UInt8} (h : (fst l).1 < 0) : (fst l).2 = 1 := by
  unfold fst at h ⊢
  split
  · rfl
  · rename_i a r
    simp only at h ⊢
    split
    · rfl
    · rename_i h1
      rw [if_neg h1] at h
      revert h
      split <;> (try split) <;> (try (intro _; rfl)) <;> (intro h; simp only at h; omega)
theorem rd_bare {a : UInt8} {r : List UInt8} (h1 : 32 ≤ a.toNat) (h2 : a.toNat ≠ 127) : rd true (a :: r) = if (fst (a :: r)).1 < 0 then (⟨4, 0, false, false, false, [a]⟩, 1) else (⟨1, (fst (a :: r)).1, false, false, false, []⟩, (fst (a :: r)).2) := by
  unfold rd
  simp only
  rw [if_pos (show a.toNat ≠ 27 from by omega)]
  unfold plain
  simp only
  rw [if_neg h2, if_neg (show ¬ a.toNat < 32 from by omega), if_neg (by simp)]
/-- How far the units and the keys have come, side by side. -/
structure TI (S : List UInt8) (U : List (Int × Nat)) (L : List Key) (i at' : Nat) : Prop where
  u : ∃ U0, U = U0 ++ unitsOf (S.drop at') ∧ U0.length = i
  l : ∃ L0, L = L0 ++ keysOf true (S.drop at') ∧ L0.length = i
  le : at' ≤ S.length
theorem TI.start (S : List UInt8) : TI S (unitsOf S) (keysOf true S) 0 0 := ⟨⟨[], rfl, rfl⟩, ⟨[], rfl, rfl⟩, Nat.zero_le _⟩
theorem keys_step {l : List UInt8} (h : l ≠ []) : keysOf true l = (rd true l).1 :: keysOf true (l.drop (rd true l).2) := by
  have hp := rd_pos l h
  unfold keysOf
  rw [run_go hp]
  rfl
theorem keys_nil (b : Bool) : keysOf b [] = [] := rfl
theorem app_at {α : Type} {A B : List α} {i : Nat} (h : A.length = i) : (A ++ B)[i]? = B[0]? := by
  subst h; rw [List.getElem?_append_right (Nat.le_refl _), Nat.sub_self]
/-- A step: there is a byte; where it is no control, the unit is the key. -/
theorem TI.at {S : List UInt8} {U : List (Int × Nat)} {L : List Key} {i at' : Nat} (h : TI S U L i at') (hi : i < U.length) :
    ∃ ha : at' < S.length, ∃ c n, U[i]? = some (c, n) ∧ (c, n) = fst (S.drop at') ∧ 1 ≤ n ∧ at' + n ≤ S.length ∧ (32 ≤ S[at'].toNat → S[at'].toNat ≠ 127 →
      L[i]? = some (if c < 0 then ⟨4, 0, false, false, false, [S[at']]⟩ else ⟨1, c, false, false, false, []⟩) ∧ TI S U L (i + 1) (at' + n)) := by
  obtain ⟨U0, hU, hU0⟩ := h.u
  obtain ⟨L0, hL, hL0⟩ := h.l
  have hne : S.drop at' ≠ [] := by
    intro e
    rw [e, units_nil, List.append_nil] at hU
    rw [hU] at hi; omega
  have ha : at' < S.length := by
    have := List.length_pos_iff.mpr hne
    rw [List.length_drop] at this; omega
  refine ⟨ha, (fst (S.drop at')).1, (fst (S.drop at')).2, ?_, rfl, fst_pos _, ?_, ?_⟩
  · rw [hU, app_at hU0, units_cons hne]; rfl
  · have := fst_le (S.drop at') hne
    rw [List.length_drop] at this; omega
  · intro h1 h2
    have hd : S.drop at' = S[at'] :: S.drop (at' + 1) := List.drop_eq_getElem_cons ha
    have hr := rd_bare (r := S.drop (at' + 1)) h1 h2
    rw [← hd] at hr
    have hk := keys_step hne
    have hle := fst_le (S.drop at') hne
    have e2 : (rd true (S.drop at')).2 = (fst (S.drop at')).2 := by
      rw [hr]; split
      · rename_i hb; rw [fst_bad hb]
      · rfl
    rw [e2, List.drop_drop] at hk
    have hu := units_cons hne
    rw [List.drop_drop] at hu
    rw [List.length_drop] at hle
    refine ⟨?_, ⟨U0 ++ [fst (S.drop at')], ?_, ?_⟩, ⟨L0 ++ [(rd true (S.drop at')).1], ?_, ?_⟩, by omega⟩
    · rw [hL, app_at hL0, hk, List.getElem?_cons_zero, hr]
      split <;> rfl
    · rw [hU, hu]; simp
    · simp [hU0]
    · rw [hL, hk]; simp
    · simp [hL0]
theorem TI.end' {S : List UInt8} {U : List (Int × Nat)} {L : List Key} {at' : Nat} (h : TI S U L U.length at') : L.length = U.length := by
  obtain ⟨U0, hU, hU0⟩ := h.u
  obtain ⟨L0, hL, hL0⟩ := h.l
  have h0 : unitsOf (S.drop at') = [] := by
    have := congrArg List.length hU
    rw [List.length_append] at this
    exact List.eq_nil_of_length_eq_zero (by omega)
  have hn : S.drop at' = [] := by
    apply Classical.byContradiction
    intro g
    rw [units_cons g] at h0; cases h0
  rw [hn, keys_nil, List.append_nil] at hL
  rw [hL, hL0]
/-! A paste. -/
theorem occ_iff {s : List UInt8} {k : Nat} : Go.Lib.occAt s pend k = true ↔ (s.drop k).take 6 = pend := by
  unfold Go.Lib.occAt
  rw [List.isPrefixOf_iff_prefix, List.prefix_iff_eq_take]
  exact eq_comm
theorem occ_more {s m : List UInt8} {k : Nat} (h : k + 6 ≤ s.length) : Go.Lib.occAt (s ++ m) pend k = Go.Lib.occAt s pend k := by
  rw [Bool.eq_iff_iff, occ_iff, occ_iff, List.drop_append_of_le_length (by omega), List.take_append_of_le_length (by rw [List.length_drop]; omega)]
theorem occ_last (s : List UInt8) : Go.Lib.occAt (s ++ pend) pend s.length = true := by
  rw [occ_iff, List.drop_left]; rfl
theorem rd_pbeg (T : List UInt8) (i : Nat) (h : Go.Lib.index T pend = i) : rd true (pbeg ++ T) = (⟨17, 0, false, false, false, T.take i⟩, 6 + i + 6) := by
  have h1 : scan (pbeg ++ T) = 5 := by
    refine scan_at (by decide) (by decide) (fun j h2 h5 => ?_) (.inr (.inr ⟨126, rfl, rfl⟩))
    match j, h2, h5 with
    | 2, _, _ => exact ⟨50, rfl, rfl⟩
    | 3, _, _ => exact ⟨48, rfl, rfl⟩
    | 4, _, _ => exact ⟨48, rfl, rfl⟩
  have h2 : rd true (pbeg ++ T) = csi true (pbeg ++ T) := rfl
  have h3 : csi true (pbeg ++ T) = meaning true (pbeg ++ T) 5 := by
    unfold csi
    rw [h1, if_neg (by decide)]
    rfl
  have h4 : meaning true (pbeg ++ T) 5 = paste true (pbeg ++ T) 6 := rfl
  rw [h2, h3, h4]
  unfold paste
  have h5 : (pbeg ++ T).drop 6 = T := rfl
  rw [h5, h, if_pos (by omega)]
  simp
theorem pend_len : pend.length = 6 := rfl
/-- A pasted text, up to its first end, and what stands behind that end. -/
theorem paste_keys (s more : List UInt8) (k : Nat) (hN : Go.Lib.NoOcc (s ++ pend) pend k) (hk : k ≤ s.length) (ho : Go.Lib.occAt (s ++ pend) pend k = true) :
    keysOf true (pbeg ++ (s ++ pend) ++ more) = ⟨17, 0, false, false, false, (s ++ pend).take k⟩ :: keysOf true ((s ++ pend).drop (k + 6) ++ more) := by
  have hl : (s ++ pend).length = s.length + 6 := by rw [List.length_append, pend_len]
  have hi : Go.Lib.index (s ++ pend ++ more) pend = k := by
    refine Go.Lib.index_first (by rw [List.length_append]; omega) ?_ (fun j hj => ?_)
    · rw [occ_more (by omega)]; exact ho
    · rw [occ_more (by omega)]; exact hN j hj
  have hr := rd_pbeg (s ++ pend ++ more) k hi
  rw [List.append_assoc pbeg, keys_step (by simp [pbeg]), hr]
  have e1 : (s ++ pend ++ more).take k = (s ++ pend).take k := List.take_append_of_le_length (by omega)
  have e2 : (pbeg ++ (s ++ pend ++ more)).drop (6 + k + 6) = (s ++ pend).drop (k + 6) ++ more := by
    rw [show 6 + k + 6 = 6 + (k + 6) from by omega, ← List.drop_drop]
    show (s ++ pend ++ more).drop (k + 6) = _
    exact List.drop_append_of_le_length (by omega)
  simp only [e1, e2]
end Go.Proofs.YtjjilhfebkeoeaaDoor.Ky
