/- Two texts, one behind the other; remarks: the plain laws. -/
import Derived.Test.YtibgefampokfkaaDoorScN
namespace Go.Proofs.YtibgefampokfkaaDoor.Sc
open Go Go.RowKit Go.Proofs.YtibgefampokfkaaDoor.Cut Go.Proofs.YtibgefampokfkaaDoor.PSc
open Go.Proofs.YtibgefampokfkaaDoor.Wk (size_len mk_data)
set_option linter.unusedVariables false
set_option linter.unusedSimpArgs false
/-- A text's lines, the last one too where it is empty. -/
def spl : List UInt8 → List (List UInt8)
  | [] => [[]]
  | x :: r => if x = 10 then [] :: spl r else match spl r with
    | [] => [[x]]
    | a :: t => (x :: a) :: t
def nls (l : List UInt8) : Nat := (l.filter (· == 10)).length
theorem spl_ne : ∀ l : List UInt8, spl l ≠ []
  | [] => by simp [spl]
  | x :: r => by
    rw [spl]; split
    · simp
    · split <;> simp
theorem spl_len : ∀ l : List UInt8, (spl l).length = nls l + 1
  | [] => rfl
  | x :: r => by
    have ih := spl_len r
    rw [spl]; split
    · rename_i h; subst h; simp [nls] at *; exact ih
    · rename_i h
      have h2 : nls (x :: r) = nls r := by simp [nls, h]
      rw [h2]
      split
      · rename_i h3; exact absurd h3 (spl_ne r)
      · rename_i a t h3
        rw [h3] at ih
        simpa using ih
theorem spl_lines : ∀ l : List UInt8, spl l = lines l ∨ spl l = lines l ++ [[]]
  | [] => .inr rfl
  | x :: r => by
    have ih := spl_lines r
    rw [spl, lines]
    by_cases hx : x = 10
    · rw [if_pos hx, if_pos hx]
      rcases ih with h | h
      · exact .inl (by rw [h])
      · exact .inr (by rw [h]; rfl)
    · rw [if_neg hx, if_neg hx]
      cases hl : lines r with
      | nil =>
        rw [hl] at ih
        rcases ih with h | h
        · exact absurd h (spl_ne r)
        · rw [h]; exact .inl rfl
      | cons a t =>
        rw [hl] at ih
        rcases ih with h | h
        · rw [h]; exact .inl rfl
        · rw [h]; exact .inr rfl
theorem lines_app : ∀ (l t : List UInt8), lines (l ++ 10 :: t) = spl l ++ lines t
  | [], t => by simp [lines, spl]
  | x :: r, t => by
    have ih := lines_app r t
    rw [List.cons_append, lines, spl]
    by_cases hx : x = 10
    · rw [if_pos hx, if_pos hx, ih]; rfl
    · rw [if_neg hx, if_neg hx, ih]
      cases hs : spl r with
      | nil => exact absurd hs (spl_ne r)
      | cons a u => rfl
theorem rdL_app : ∀ (ls : List (List UInt8)) (n : Int) (acc : List S37),
    (∃ L, rdL n acc ls = (L, 0, 0) ∧ ∀ ms, rdL n acc (ls ++ ms) = rdL (n + ls.length) L ms) ∨ (∃ m, rdL n acc ls = ([], m, 14) ∧ ∀ ms, rdL n acc (ls ++ ms) = ([], m, 14)) := by
  intro ls
  induction ls with
  | nil => intro n acc; exact .inl ⟨acc, rfl, fun ms => by simp⟩
  | cons a r ih =>
    intro n acc
    simp only [List.cons_append, rdL]
    by_cases h1 : skip a = true
    · simp only [if_pos h1]
      rcases ih (n + 1) acc with ⟨L, h2, h3⟩ | h
      · exact .inl ⟨L, h2, fun ms => by rw [h3]; congr 1; simp only [List.length_cons]; omega⟩
      · exact .inr h
    · simp only [if_neg h1]
      by_cases h4 : evOk a = true
      · simp only [if_pos h4]
        rcases ih (n + 1) (acc ++ [evS a]) with ⟨L, h2, h3⟩ | h
        · exact .inl ⟨L, h2, fun ms => by rw [h3]; congr 1; simp only [List.length_cons]; omega⟩
        · exact .inr h
      · simp only [if_neg h4]
        exact .inr ⟨n, rfl, fun _ => rfl⟩
theorem rdL_shift (d : Int) (acc' : List S37) : ∀ (ls : List (List UInt8)) (n : Int) (acc : List S37),
    (∃ L, rdL n acc ls = (acc ++ L, 0, 0) ∧ rdL (n + d) (acc' ++ acc) ls = (acc' ++ (acc ++ L), 0, 0)) ∨ (∃ m, rdL n acc ls = ([], m, 14) ∧ rdL (n + d) (acc' ++ acc) ls = ([], m + d, 14)) := by
  intro ls
  induction ls with
  | nil => intro n acc; exact .inl ⟨[], by simp [rdL], by simp [rdL]⟩
  | cons a r ih =>
    intro n acc
    simp only [rdL]
    by_cases h1 : skip a = true
    · simp only [if_pos h1]
      have := ih (n + 1) acc
      rw [show n + 1 + d = n + d + 1 from by omega] at this
      exact this
    · simp only [if_neg h1]
      by_cases h4 : evOk a = true
      · simp only [if_pos h4]
        have := ih (n + 1) (acc ++ [evS a])
        rw [show n + 1 + d = n + d + 1 from by omega] at this
        rcases this with ⟨L, h2, h3⟩ | h
        · exact .inl ⟨evS a :: L, by rw [h2]; simp, by rw [List.append_assoc, h3]; simp⟩
        · obtain ⟨m, h2, h3⟩ := h
          exact .inr ⟨m, h2, by rw [List.append_assoc, h3]⟩
      · simp only [if_neg h4]
        exact .inr ⟨n, rfl, rfl⟩
theorem skip_nil : skip [] = true := rfl
/-- rd, told of the lines with the last one. -/
theorem rd_spl (l : List UInt8) : rdL 1 [] (spl l) = rd l := by
  rcases spl_lines l with h | h
  · rw [h]; rfl
  · rw [h]
    unfold rd
    rcases rdL_app (lines l) 1 [] with ⟨L, h1, h2⟩ | ⟨m, h1, h2⟩
    · rw [h2, h1, rdL, if_pos skip_nil, rdL]
    · rw [h2, h1]
theorem rd_join_bad {a : List UInt8} {L : List S37} {n : Int} (h : rd a = (L, n, 14)) (t : List UInt8) : rd (a ++ 10 :: t) = ([], n, 14) ∧ L = [] := by
  unfold rd
  rw [lines_app]
  rw [← rd_spl] at h
  rcases rdL_app (spl a) 1 [] with ⟨M, h1, h2⟩ | ⟨m, h1, h2⟩
  · rw [h1] at h; simp at h
  · rw [h1] at h
    simp only [Prod.mk.injEq, and_true] at h
    rw [h2, h.2]
    exact ⟨rfl, h.1.symm⟩
theorem rd_join_ok {a : List UInt8} {L : List S37} {n : Int} (h : rd a = (L, n, 0)) (t : List UInt8) : n = 0 ∧ rd (a ++ 10 :: t) = rdL (1 + ((nls a + 1 : Nat) : Int)) L (lines t) := by
  unfold rd
  rw [lines_app]
  rw [← rd_spl] at h
  rcases rdL_app (spl a) 1 [] with ⟨M, h1, h2⟩ | ⟨m, h1, h2⟩
  · rw [h1] at h
    simp only [Prod.mk.injEq, and_true] at h
    rw [h2, h.1, spl_len]
    exact ⟨h.2.symm, rfl⟩
  · rw [h1] at h; simp at h
theorem rd_join {a b : List UInt8} {L : List S37} {n : Int} (h : rd a = (L, n, 0)) : n = 0 ∧ ((∃ M, rd b = (M, 0, 0) ∧ rd (a ++ 10 :: b) = (L ++ M, 0, 0)) ∨ (∃ k, rd b = ([], k, 14) ∧ rd (a ++ 10 :: b) = ([], 1 + nls a + k, 14))) := by
  obtain ⟨h0, h1⟩ := rd_join_ok h b
  refine ⟨h0, ?_⟩
  have h2 := rdL_shift ((nls a + 1 : Nat) : Int) L (lines b) 1 []
  rw [List.append_nil] at h2
  rw [h1]
  rcases h2 with ⟨M, h3, h4⟩ | ⟨m, h3, h4⟩
  · refine .inl ⟨M, ?_, ?_⟩
    · unfold rd; rw [h3]; rfl
    · rw [h4]; rfl
  · refine .inr ⟨m, ?_, ?_⟩
    · unfold rd; rw [h3]
    · rw [h4]; congr 2; omega
/-- Remarks and empty lines. -/
theorem rd_remark {a w : List UInt8} {L : List S37} {n : Int} (h : rd a = (L, n, 0)) (hw : w.head? = some 35) (hn : ∀ x ∈ w, x ≠ 10) : rd (10 :: (w ++ 10 :: (a ++ 10 :: 10 :: w))) = (L, 0, 0) := by
  have hne : w ≠ [] := by intro e; rw [e] at hw; simp at hw
  have hs : skip w = true := by simp [skip, hw]
  unfold rd
  rw [lines, if_pos rfl, lines_end hn, lines_app, lines, if_pos rfl, lines_one hne hn, rdL, if_pos skip_nil, rdL, if_pos hs]
  rw [← rd_spl] at h
  have h2 := rdL_shift 2 [] (spl a) 1 []
  rw [List.append_nil] at h2
  rcases rdL_app (spl a) (1 + 1 + 1) [] with ⟨M, h3, h4⟩ | ⟨m, h3, h4⟩
  · rw [h4, rdL, if_pos skip_nil, rdL, if_pos hs, rdL]
    rcases h2 with ⟨M', h5, h6⟩ | ⟨m', h5, h6⟩
    · rw [h5] at h
      simp only [Prod.mk.injEq] at h
      rw [show (1 : Int) + 2 = 1 + 1 + 1 from rfl] at h6
      rw [h3] at h6
      simp only [Prod.mk.injEq] at h6
      rw [h6.1, ← h.1]
      rfl
    · rw [h5] at h; simp at h
  · rcases h2 with ⟨M', h5, h6⟩ | ⟨m', h5, h6⟩
    · rw [show (1 : Int) + 2 = 1 + 1 + 1 from rfl] at h6
      rw [h3] at h6
      simp at h6
    · rw [h5] at h; simp at h
end Go.Proofs.YtibgefampokfkaaDoor.Sc
