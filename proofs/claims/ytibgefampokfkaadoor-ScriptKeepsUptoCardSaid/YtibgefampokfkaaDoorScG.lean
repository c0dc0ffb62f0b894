/- Read of a script's text in closed form: the program's and the reference's come to the same, line by line. -/
import Derived.Test.YtibgefampokfkaaDoorPScx3
namespace Go.Proofs.YtibgefampokfkaaDoor.Sc
open Go Go.RowKit Go.Proofs.YtibgefampokfkaaDoor.Cut Go.Proofs.YtibgefampokfkaaDoor.PSc
open Go.Proofs.YtibgefampokfkaaDoorW.PrintWords (bt rdOf)
open Go.Proofs.YtibgefampokfkaaDoor.Wk (size_len mk_data)
set_option linter.unusedVariables false
set_option linter.unusedSimpArgs false

abbrev toB (l : List UInt8) : ByteArray := ⟨l.toArray⟩
theorem toB_list (l : List UInt8) : (toB l).data.toList = l := by simp
theorem toB_toList (l : List UInt8) : (toB l).toList = l := by rw [Lib.toList_data]
theorem toB_size (l : List UInt8) : (toB l).size = l.length := by rw [← size_len]
theorem toB_of (s : ByteArray) : toB s.data.toList = s := mk_data s
/-- A text's lines. -/
def lines : List UInt8 → List (List UInt8)
  | [] => []
  | x :: r => if x = 10 then [] :: lines r else match lines r with
    | [] => [[x]]
    | a :: t => (x :: a) :: t
theorem cut1_nil (c : UInt8) : cut1 c [] = ([], [], false) := rfl
theorem lines_cut : ∀ l : List UInt8, l ≠ [] → lines l = (cut1 10 l).1 :: lines (cut1 10 l).2.1
  | [], h => absurd rfl h
  | x :: r, _ => by
    by_cases hx : x = 10
    · simp [lines, cut1, hx]
    · cases r with
      | nil => simp [lines, cut1, hx]
      | cons y r =>
        have := lines_cut (y :: r) (by simp)
        simp only [lines, cut1, if_neg hx] at this ⊢
        rw [this]
theorem cut1_rest (c : UInt8) : ∀ l : List UInt8, l ≠ [] → (cut1 c l).2.1.length < l.length
  | [], h => absurd rfl h
  | x :: r, _ => by
    by_cases hx : x = c
    · simp [cut1, hx]
    · cases r with
      | nil => simp [cut1, hx]
      | cons y r =>
        have := cut1_rest c (y :: r) (by simp)
        simp only [cut1, if_neg hx, List.length_cons] at this ⊢
        omega
def evS (l : List UInt8) : S37 := ⟨(evt l).1, toB (evt l).2.1, (evt l).2.2.1, (evt l).2.2.2.1⟩
def evOk (l : List UInt8) : Bool := (evt l).2.2.2.2
def skip (a : List UInt8) : Bool := a.isEmpty || a.head? == some 35
def rdL : Int → List S37 → List (List UInt8) → List S37 × Int × Int
  | _, acc, [] => (acc, 0, 0)
  | n, acc, a :: r => if skip a = true then rdL (n + 1) acc r else if evOk a = true then rdL (n + 1) (acc ++ [evS a]) r else ([], n, 14)
theorem wrap64_id {n : Int} (h0 : -9223372036854775808 ≤ n) (h1 : n ≤ 9223372036854775807) : wrap64 n = n := by unfold wrap64; omega
theorem bt_zero (x : UInt8) (r : List UInt8) : bt (toB (x :: r)) 0 = (x.toNat : Int) := by
  unfold bt
  rw [dif_pos (by rw [toB_size]; simp)]
  rfl
theorem cutf (l : List UInt8) (h : l.length ≤ 1000000000) (c : UInt8) : strings_Cut.f (toB l) ⟨#[c]⟩ = some (toB (cut1 c l).1, toB (cut1 c l).2.1, (cut1 c l).2.2) := by
  unfold strings_Cut.f
  simp only [toB_list]
  rw [if_pos (by rw [toB_size]; exact h)]
theorem eventf (l : List UInt8) (h : l.length ≤ 1000000000) : script_event.f (toB l) = some ((evS l).f0, (evS l).f1, (evS l).f2, (evS l).f3, evOk l) := by
  unfold script_event.f
  rw [if_pos (by rw [toB_size]; exact h), toB_list]
  rfl
theorem reventf (l : List UInt8) (h : l.length ≤ 1000000000) : bodkinref24_event.f (toB l) = some ((evS l).f0, (evS l).f1, (evS l).f2, (evS l).f3, evOk l) := by
  unfold bodkinref24_event.f
  rw [if_pos (by rw [toB_size]; exact h), toB_list]
  rfl
theorem skip_cons (x : UInt8) (r : List UInt8) : skip (x :: r) = ((x.toNat : Int) == 35) := by
  have h : x = 35 ↔ (x.toNat : Int) = 35 := by rw [← UInt8.toNat_inj]; simp; omega
  simp only [skip, List.isEmpty_cons, Bool.false_or, List.head?_cons]
  rw [Bool.eq_iff_iff, beq_iff_eq, beq_iff_eq, Option.some.injEq, h]
theorem read_j1 (k : Nat) (a rest : List UInt8) (acc : List S37) (n : Int) (b : Bool) (ha : a.length ≤ 1000000000) (h0 : 0 ≤ n) (h1 : n ≤ 4000000000) (hacc : acc.length ≤ 3000000000) :
    script_Read.j1 (k + 1) (toB rest) acc n (toB a) b = if b = true then script_Read.l0 k (toB rest) acc (n + 1) else if evOk a = true then script_Read.l0 k (toB rest) (acc ++ [evS a]) (n + 1) else some ([], n, 14) := by
  rw [script_Read.j1, wrap64_id (by omega) (by omega), eventf a ha]
  simp only [Option.bind_some]
  rw [if_pos (show acc.length < 3518437208883 by omega)]
theorem read_l0 (m : Nat) : ∀ (l : List UInt8) (acc : List S37) (n : Int) (d : Nat), l.length ≤ m → l.length ≤ 1000000000 → 0 ≤ n → n + l.length ≤ 3000000000 → acc.length + l.length ≤ 3000000000 →
    script_Read.l0 (2 * m + 1 + d) (toB l) acc n = some (rdL n acc (lines l)) := by
  induction m with
  | zero =>
    intro l acc n d h1 _ _ _ _
    have : l = [] := List.eq_nil_of_length_eq_zero (by omega)
    subst this
    rw [show 2 * 0 + 1 + d = d + 1 from by omega, script_Read.l0, if_pos (toB_toList [])]
    rfl
  | succ m ih =>
    intro l acc n d h1 h2 h3 h4 h5
    rw [show 2 * (m + 1) + 1 + d = (2 * m + 1 + d) + 1 + 1 from by omega, script_Read.l0]
    cases l with
    | nil => rw [if_pos (toB_toList [])]; rfl
    | cons x r =>
      have hne : x :: r ≠ [] := by simp
      have hr := cut1_rest 10 (x :: r) hne
      have hl := cut1_len 10 (x :: r)
      rw [if_neg (by rw [toB_toList]; exact hne), cutf _ h2, lines_cut _ hne]
      simp only [Option.bind_some]
      obtain ⟨a, ea⟩ : ∃ a, (cut1 10 (x :: r)).1 = a := ⟨_, rfl⟩
      obtain ⟨rest, er⟩ : ∃ a, (cut1 10 (x :: r)).2.1 = a := ⟨_, rfl⟩
      rw [er] at hr hl
      rw [ea] at hl
      rw [ea, er]
      have hacc : acc.length ≤ 3000000000 := by omega
      simp only [List.length_cons] at hr hl h1 h2 h4 h5
      cases a with
      | nil =>
        rw [if_pos (toB_toList []), read_j1 _ _ _ _ _ _ (by simp) h3 (by omega) hacc, if_pos rfl, ih rest acc (n + 1) d (by omega) (by omega) (by omega) (by omega) (by omega), rdL, if_pos (by rfl)]
      | cons y a =>
        have hy : (y :: a).length ≤ 1000000000 := by simp only [List.length_cons] at hl ⊢; omega
        rw [if_neg (by rw [toB_toList]; simp), if_pos (by rw [toB_size]; simp), bt_zero, ← skip_cons y a, read_j1 _ _ _ _ _ _ hy h3 (by omega) hacc, rdL]
        rw [ih rest acc (n + 1) d (by omega) (by omega) (by omega) (by omega) (by omega), ih rest (acc ++ [evS (y :: a)]) (n + 1) d (by omega) (by omega) (by omega) (by omega) (by simp only [List.length_append, List.length_cons, List.length_nil]; omega)]
        by_cases hs : skip (y :: a) = true
        · rw [if_pos hs, if_pos hs]
        · rw [if_neg hs, if_neg hs]
          by_cases ho : evOk (y :: a) = true
          · rw [if_pos ho, if_pos ho]
          · rw [if_neg ho, if_neg ho]
/-- What Read answers. -/
def rd (l : List UInt8) : List S37 × Int × Int := rdL 1 [] (lines l)
theorem readf (l : List UInt8) (h : l.length ≤ 1000000000) (d : Nat) : script_Read.f (2 * l.length + 1 + d) (toB l) = some (rd l) :=
  read_l0 l.length l [] 1 d (Nat.le_refl _) h (by omega) (by omega) (by simp; omega)
theorem readf' (s : ByteArray) (h : s.size ≤ 1000000000) (k : Nat) (hk : 2 * s.size + 1 ≤ k) : script_Read.f k s = some (rd s.data.toList) := by
  have := readf s.data.toList (by rw [size_len]; exact h) (k - (2 * s.size + 1))
  rw [size_len, toB_of, show 2 * s.size + 1 + (k - (2 * s.size + 1)) = k from by omega] at this
  exact this

def glue (p : List UInt8) (ls : List (List UInt8)) : List (List UInt8) := if p = [] then ls else match ls with
  | [] => [p]
  | a :: t => (p ++ a) :: t
theorem glue_nl (p : List UInt8) (ls : List (List UInt8)) : glue p ([] :: ls) = p :: ls := by
  unfold glue; split
  · rename_i h; rw [h]
  · simp
theorem glue_x (p : List UInt8) (x : UInt8) (r : List UInt8) (hx : x ≠ 10) : glue p (lines (x :: r)) = glue (p ++ [x]) (lines r) := by
  rw [lines, if_neg hx]
  unfold glue
  rw [if_neg (show ¬ p ++ [x] = [] by simp)]
  split
  · rename_i h; subst h
    cases lines r <;> simp
  · cases lines r <;> simp
theorem piece_grow (l : List UInt8) (f i : Nat) (h1 : f ≤ i) (h2 : i < l.length) : (l.drop f).take (i + 1 - f) = (l.drop f).take (i - f) ++ [l[i]] := by
  rw [show i + 1 - f = (i - f) + 1 from by omega, List.take_succ_eq_append_getElem (by rw [List.length_drop]; omega)]
  congr 2
  rw [List.getElem_drop]
  congr 1; omega
theorem extract_toB (l : List UInt8) (f i : Nat) : (toB l).extract f i = toB ((l.drop f).take (i - f)) := by
  rw [← toB_of ((toB l).extract f i), Lib.extract_data, toB_list]
theorem bt_toB (l : List UInt8) (i : Nat) (h : i < l.length) : bt (toB l) (i : Int) = (l[i].toNat : Int) := by
  unfold bt
  rw [dif_pos (by rw [toB_size]; exact h)]
  rfl
theorem lines_l0 (l : List UInt8) (hl : l.length ≤ 1000000000) (m : Nat) : ∀ (acc : List ByteArray) (f i d : Nat), i + m = l.length → f ≤ i → acc.length + m ≤ 2000000000 →
    bodkinref24_Lines.l0 (m + 1 + d) (toB l) acc f i = some (acc ++ (glue ((l.drop f).take (i - f)) (lines (l.drop i))).map toB) := by
  induction m with
  | zero =>
    intro acc f i d h1 h2 h3
    have hi : i = l.length := by omega
    subst hi
    rw [show 0 + 1 + d = d + 1 from by omega, bodkinref24_Lines.l0, toB_size, if_neg (by omega), List.drop_length]
    by_cases hf : f < l.length
    · rw [if_pos (by omega), if_pos (by omega), if_pos (by omega), if_pos (by omega)]
      have hp : (l.drop f).take (l.length - f) ≠ [] := by
        intro e
        have := congrArg List.length e
        simp at this; omega
      rw [Int.toNat_natCast, extract_toB, lines, glue, if_neg hp]
      rfl
    · rw [if_neg (by omega)]
      have hp : (l.drop f).take (l.length - f) = [] := by rw [List.drop_of_length_le (by omega)]; simp
      rw [hp, lines, glue, if_pos rfl]
      simp
  | succ m ih =>
    intro acc f i d h1 h2 h3
    have hlt : i < l.length := by omega
    rw [show m + 1 + 1 + d = (m + 1 + d) + 1 from by omega, bodkinref24_Lines.l0, toB_size, if_pos (by omega), if_pos (by omega), bt_toB l i hlt, List.drop_eq_getElem_cons hlt, wrap64_id (by omega) (by omega)]
    by_cases hx : l[i] = 10
    · rw [if_pos (by rw [hx]; rfl), if_pos (by omega), if_pos (by omega), if_pos (by omega), if_pos (by omega)]
      have := ih (acc ++ [(toB l).extract (f : Int).toNat (i : Int).toNat]) (i + 1) (i + 1) d (by omega) (Nat.le_refl _) (by simp only [List.length_append, List.length_cons, List.length_nil]; omega)
      rw [show ((i : Int) + 1) = ((i + 1 : Nat) : Int) from by omega, this, lines, if_pos hx, glue_nl, Int.toNat_natCast, Int.toNat_natCast, extract_toB]
      simp [glue]
    · rw [if_neg (by intro h; exact hx (by rw [← UInt8.toNat_inj]; simp; omega))]
      have := ih acc f (i + 1) d (by omega) (by omega) (by omega)
      rw [show ((i : Int) + 1) = ((i + 1 : Nat) : Int) from by omega, this, glue_x _ _ _ hx, piece_grow l f i h2 hlt]
theorem linesf (l : List UInt8) (h : l.length ≤ 1000000000) (d : Nat) : bodkinref24_Lines.f (l.length + 1 + d) (toB l) = some ((lines l).map toB) := by
  have := lines_l0 l h l.length [] 0 0 d (by omega) (Nat.le_refl _) (by simp; omega)
  rw [bodkinref24_Lines.f]
  simpa [glue] using this
theorem lines_len : ∀ l : List UInt8, (lines l).length ≤ l.length ∧ ∀ a ∈ lines l, a.length ≤ l.length
  | [] => by simp [lines]
  | x :: r => by
    obtain ⟨h1, h2⟩ := lines_len r
    simp only [lines]
    split
    · refine ⟨by simp; omega, fun a ha => ?_⟩
      rcases List.mem_cons.mp ha with rfl | ha
      · simp
      · have := h2 a ha; simp only [List.length_cons]; omega
    · cases hr : lines r with
      | nil => exact ⟨by simp, fun a ha => by simp at ha; subst ha; simp⟩
      | cons b t =>
        rw [hr] at h1 h2
        refine ⟨by simp only [List.length_cons] at *; omega, fun a ha => ?_⟩
        rcases List.mem_cons.mp ha with rfl | ha
        · have := h2 b (by simp); simp only [List.length_cons]; omega
        · have := h2 a (by simp [ha]); simp only [List.length_cons]; omega
theorem rdOf_map (ls : List (List UInt8)) (i : Nat) (h : i < ls.length) : rdOf ByteArray.empty (ls.map toB) (i : Int) = toB ls[i] := by
  unfold rdOf
  rw [Int.toNat_natCast, List.getD_eq_getElem?_getD, List.getElem?_map, List.getElem?_eq_getElem h]
  rfl
theorem rread_l0 (ls : List (List UInt8)) (hls : ls.length ≤ 1000000000) (hall : ∀ a ∈ ls, a.length ≤ 1000000000) (m : Nat) : ∀ (acc : List S37) (i d : Nat), i + m = ls.length → acc.length + m ≤ 2000000000 →
    bodkinref24_Read.l0 (2 * m + 1 + d) acc (ls.map toB) i = some (rdL (i + 1) acc (ls.drop i)) := by
  induction m with
  | zero =>
    intro acc i d h1 h2
    rw [show 2 * 0 + 1 + d = d + 1 from by omega, bodkinref24_Read.l0, List.length_map, if_neg (by omega), List.drop_of_length_le (by omega)]
    rfl
  | succ m ih =>
    intro acc i d h1 h2
    have hlt : i < ls.length := by omega
    rw [show 2 * (m + 1) + 1 + d = (2 * m + 1 + d) + 1 + 1 from by omega, bodkinref24_Read.l0, List.length_map, if_pos (by omega), if_pos (by omega), rdOf_map ls i hlt, List.drop_eq_getElem_cons hlt]
    have hj : ∀ b : Bool, bodkinref24_Read.j1 (2 * m + 1 + d + 1) acc (ls.map toB) i b = if b = true then some (rdL (i + 1 + 1) acc (ls.drop (i + 1))) else if evOk ls[i] = true then some (rdL (i + 1 + 1) (acc ++ [evS ls[i]]) (ls.drop (i + 1))) else some ([], (i : Int) + 1, 14) := by
      intro b
      have e1 := ih acc (i + 1) d (by omega) (by omega)
      have e2 := ih (acc ++ [evS ls[i]]) (i + 1) d (by omega) (by simp only [List.length_append, List.length_cons, List.length_nil]; omega)
      rw [bodkinref24_Read.j1, wrap64_id (by omega) (by omega), if_pos (show (0 : Int) ≤ i by omega), List.length_map, if_pos (show (i : Int) < ls.length by omega), rdOf_map ls i hlt, reventf _ (hall _ (List.getElem_mem hlt))]
      simp only [Option.bind_some]
      rw [if_pos (show acc.length < 3518437208883 by omega), show ((i : Int) + 1) = ((i + 1 : Nat) : Int) from by omega, e1]
      have e2' : bodkinref24_Read.l0 (2 * m + 1 + d) (acc ++ [(⟨(evS ls[i]).f0, (evS ls[i]).f1, (evS ls[i]).f2, (evS ls[i]).f3⟩ : S37)]) (ls.map toB) ((i + 1 : Nat) : Int) = _ := e2
      rw [e2']
    obtain ⟨a, ea⟩ : ∃ a, ls[i] = a := ⟨_, rfl⟩
    rw [ea] at hj ⊢
    cases a with
    | nil => rw [if_pos (toB_toList []), hj, if_pos rfl, rdL, if_pos (by rfl)]
    | cons y a =>
      rw [if_neg (by rw [toB_toList]; simp), if_pos (by rw [toB_size]; simp), bt_zero, ← skip_cons y a, hj, rdL]
      by_cases hs : skip (y :: a) = true
      · rw [if_pos hs, if_pos hs]
      · rw [if_neg hs, if_neg hs]
        by_cases ho : evOk (y :: a) = true
        · rw [if_pos ho, if_pos ho]
        · rw [if_neg ho, if_neg ho]
theorem rreadf' (s : ByteArray) (h : s.size ≤ 1000000000) (k : Nat) (hk : 2 * s.size + 1 ≤ k) : bodkinref24_Read.f k s = some (rd s.data.toList) := by
  have h1 := linesf s.data.toList (by rw [size_len]; exact h) (k - (s.size + 1))
  have h2 := lines_len s.data.toList
  rw [size_len] at h1 h2
  rw [toB_of, show s.size + 1 + (k - (s.size + 1)) = k from by omega] at h1
  have h3 := rread_l0 (lines s.data.toList) (by omega) (fun a ha => by have := h2.2 a ha; omega) (lines s.data.toList).length [] 0 (k - (2 * (lines s.data.toList).length + 1)) (by omega) (by simp; omega)
  rw [bodkinref24_Read.f, h1]
  simp only [Option.bind_some]
  rw [show 2 * (lines s.data.toList).length + 1 + (k - (2 * (lines s.data.toList).length + 1)) = k from by omega] at h3
  simpa [rd] using h3
end Go.Proofs.YtibgefampokfkaaDoor.Sc
