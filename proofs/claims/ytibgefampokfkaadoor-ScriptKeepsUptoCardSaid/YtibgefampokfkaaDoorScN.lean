/- What is printed is read back: the plain laws. -/
import Derived.Test.YtibgefampokfkaaDoorScM
namespace Go.Proofs.YtibgefampokfkaaDoor.Sc
open Go Go.RowKit Go.Proofs.YtibgefampokfkaaDoor.Cut Go.Proofs.YtibgefampokfkaaDoor.PSc
open Go.Proofs.YtibgefampokfkaaDoor.Wk (size_len mk_data)
set_option linter.unusedVariables false
set_option linter.unusedSimpArgs false
theorem wd_app : ∀ (l t : List UInt8) (n : Nat), wd n (l ++ t) = (wd n l).bind fun m => wd m t
  | [], t, n => rfl
  | c :: r, t, n => by
    rw [List.cons_append, wd, wd]
    split
    · rfl
    · exact wd_app r t _
theorem wd_dec : ∀ (m n k : Nat), n < m → wd k (Lib.decDigits n) = some (k * 10 ^ (Lib.decDigits n).length + n) := by
  intro m
  induction m with
  | zero => intro n k h; omega
  | succ m ih =>
    intro n k h
    by_cases h10 : n < 10
    · rw [dec_lt h10, wd, wd, if_neg]
      · simp only [List.length_cons, List.length_nil, UInt8.toNat_ofNat']
        congr 1; omega
      · rw [UInt8.lt_iff_toNat_lt, UInt8.lt_iff_toNat_lt]; simp only [UInt8.toNat_ofNat']; simp; omega
    · rw [dec_ge h10, dec_lt (show n % 10 < 10 by omega), wd_app, ih (n / 10) k (by omega), Option.bind_some, wd, wd, if_neg]
      · simp only [List.length_append, List.length_cons, List.length_nil, UInt8.toNat_ofNat']
        have e1 : 10 ^ ((Lib.decDigits (n / 10)).length + (0 + 1)) = 10 ^ (Lib.decDigits (n / 10)).length * 10 := by rw [Nat.zero_add, Nat.pow_succ]
        rw [e1]
        congr 1
        have : 10 * (k * 10 ^ (Lib.decDigits (n / 10)).length + n / 10) = k * (10 ^ (Lib.decDigits (n / 10)).length * 10) + 10 * (n / 10) := by
          rw [Nat.mul_add, ← Nat.mul_assoc 10, Nat.mul_comm 10 k, Nat.mul_assoc k, Nat.mul_comm 10]
        rw [this]
        omega
      · rw [UInt8.lt_iff_toNat_lt, UInt8.lt_iff_toNat_lt]; simp only [UInt8.toNat_ofNat']; simp; omega
theorem dec_range : ∀ (m n : Nat), n < m → ∀ x ∈ Lib.decDigits n, 48 ≤ x ∧ x ≤ 57 := by
  intro m
  induction m with
  | zero => intro n h; omega
  | succ m ih =>
    intro n h x hx
    by_cases h10 : n < 10
    · rw [dec_lt h10] at hx
      simp only [List.mem_cons, List.not_mem_nil, or_false] at hx
      subst hx
      rw [UInt8.le_iff_toNat_le, UInt8.le_iff_toNat_le]
      simp only [UInt8.toNat_ofNat']; simp; omega
    · rw [dec_ge h10, List.mem_append] at hx
      rcases hx with hx | hx
      · exact ih _ (by omega) x hx
      · exact ih _ (by omega) x hx
theorem dec_head : ∀ (m n : Nat), n < m → 1 ≤ n → (Lib.decDigits n).head? ≠ some 48 ∧ 1 ≤ (Lib.decDigits n).length := by
  intro m
  induction m with
  | zero => intro n h; omega
  | succ m ih =>
    intro n h h1
    by_cases h10 : n < 10
    · rw [dec_lt h10]
      simp only [List.head?_cons, List.length_cons, List.length_nil]
      refine ⟨fun e => ?_, by omega⟩
      have := congrArg UInt8.toNat (Option.some.inj e)
      simp only [UInt8.toNat_ofNat'] at this
      simp at this
      omega
    · rw [dec_ge h10]
      obtain ⟨h2, h3⟩ := ih (n / 10) (by omega) (by omega)
      obtain ⟨y, t, hy⟩ := List.exists_cons_of_length_pos h3
      rw [hy] at h2 ⊢
      simp only [List.cons_append, List.head?_cons, List.length_cons] at *
      exact ⟨h2, by omega⟩
theorem dec_len : ∀ (m n : Nat), n < 10 ^ (m + 1) → (Lib.decDigits n).length ≤ m + 1 := by
  intro m
  induction m with
  | zero => intro n hn; rw [dec_lt (by omega)]; simp
  | succ m ih =>
    intro n hn
    by_cases h10 : n < 10
    · rw [dec_lt h10]; simp
    · rw [dec_ge h10, dec_lt (show n % 10 < 10 by omega)]
      have := ih (n / 10) (by rw [Nat.pow_succ] at hn; omega)
      simp only [List.length_append, List.length_cons, List.length_nil]; omega
theorem wid_dec {n : Nat} (h1 : 1 ≤ n) (h2 : n ≤ 65535) : wid (Lib.decDigits n) = (n, true) := by
  obtain ⟨h3, h4⟩ := dec_head (n + 1) n (by omega) h1
  have h5 := dec_len 4 n (by omega)
  unfold wid
  rw [if_neg (by rintro (h | h | h); omega; omega; exact h3 h), wd_dec (n + 1) n 0 (by omega)]
  simp only [Nat.zero_mul, Nat.zero_add]
  rw [decide_eq_true h2]
/-- An event without what its kind doesn't use. -/
def bareS (x : S37) : S37 := if x.f0 = 1 then ⟨1, x.f1, 0, 0⟩ else if x.f0 = 2 then ⟨2, ⟨#[]⟩, x.f2, 0⟩ else ⟨x.f0, ⟨#[]⟩, 0, x.f3⟩
/-- A good event's line is read as the bare event. -/
theorem ln_back (x : S37) (h : (ln x).2 = 0) : (∀ y ∈ (ln x).1, y ≠ 10) ∧ skip (ln x).1 = false ∧ evOk (ln x).1 = true ∧ evS (ln x).1 = bareS x := by
  obtain ⟨k, b, n, t⟩ := x
  unfold ln at h ⊢
  simp only at h ⊢
  by_cases h1 : k = 1
  · subst h1
    rw [ls1] at h ⊢
    simp only at h ⊢
    refine ⟨typed_nl _ (piece_print _), by simp [skip], (evS_typed _).2, ?_⟩
    rw [(evS_typed _).1, toB_of]
    rfl
  by_cases h2 : k = 2
  · subst h2
    by_cases h3 : n < 1 ∨ 65535 < n
    · rw [ls2a _ _ h3] at h; simp at h
    · rw [ls2b _ _ h3] at h ⊢
      simp only at h ⊢
      have hw := wid_dec (n := n.toNat) (by omega) (by omega)
      have hv := evt_width (Lib.decDigits n.toNat)
      rw [hw] at hv
      simp only at hv
      refine ⟨?_, by simp [skip], ?_, ?_⟩
      · intro y hy
        rcases List.mem_append.mp hy with h | h
        · intro e; subst e; simp at h
        · intro e; subst e
          have := (dec_range (n.toNat + 1) n.toNat (by omega) _ h).1
          exact absurd this (by decide)
      · unfold evOk; rw [hv]
      · unfold evS; rw [hv]
        simp only [bareS]
        rw [if_neg (by decide), if_pos trivial, show ((n.toNat : Nat) : Int) = n from by omega]
  by_cases h3 : k = 3
  · subst h3
    by_cases t1 : t = 1
    · subst t1
      rw [ls3a] at h ⊢
      refine ⟨by decide, by decide, by unfold evOk; rw [evt_gap], by unfold evS; rw [evt_gap]; rfl⟩
    by_cases t2 : t = 2
    · subst t2
      rw [ls3b] at h ⊢
      refine ⟨by decide, by decide, by unfold evOk; rw [evt_rope], by unfold evS; rw [evt_rope]; rfl⟩
    rw [ls3c _ _ t1 t2] at h; simp at h
  rw [ls4 _ _ _ h1 h2 h3] at h; simp at h
/-- A list's text. -/
def txt (l : List S37) : List UInt8 := l.flatMap fun x => (ln x).1 ++ [10]
theorem prA_ok : ∀ (l : List S37) (acc s : List UInt8), prA acc l = (s, 0) → (∀ x ∈ l, (ln x).2 = 0) ∧ s = acc ++ txt l := by
  intro l
  induction l with
  | nil => intro acc s h; simp only [prA, Prod.mk.injEq] at h; simp [txt, h.1]
  | cons x r ih =>
    intro acc s h
    rw [prA] at h
    split at h
    · rename_i hx
      obtain ⟨h1, h2⟩ := ih _ _ h
      refine ⟨fun y hy => ?_, ?_⟩
      · rcases List.mem_cons.mp hy with rfl | hy
        · exact hx
        · exact h1 y hy
      · rw [h2]; simp [txt]
    · rename_i hx
      simp only [Prod.mk.injEq] at h
      exact absurd h.2 hx
theorem prA_bad : ∀ (l : List S37) (acc s : List UInt8) (e : Int), prA acc l = (s, e) → e ≠ 0 → s = [] := by
  intro l
  induction l with
  | nil => intro acc s e h he; simp only [prA, Prod.mk.injEq] at h; exact absurd h.2.symm he
  | cons x r ih =>
    intro acc s e h he
    rw [prA] at h
    split at h
    · exact ih _ _ _ h he
    · simp only [Prod.mk.injEq] at h; exact h.1.symm
theorem prA_all : ∀ (l : List S37) (acc : List UInt8), (∀ x ∈ l, (ln x).2 = 0) → prA acc l = (acc ++ txt l, 0) := by
  intro l
  induction l with
  | nil => intro acc h; simp [prA, txt]
  | cons x r ih =>
    intro acc h
    rw [prA, if_pos (h x (by simp)), ih _ (fun y hy => h y (by simp [hy]))]
    simp [txt]
theorem lines_txt : ∀ (l : List S37), (∀ x ∈ l, (ln x).2 = 0) → lines (txt l) = l.map fun x => (ln x).1 := by
  intro l
  induction l with
  | nil => intro h; rfl
  | cons x r ih =>
    intro h
    have e : txt (x :: r) = (ln x).1 ++ 10 :: txt r := by simp [txt]
    rw [e, lines_end (ln_back x (h x (by simp))).1, ih (fun y hy => h y (by simp [hy]))]
    rfl
theorem rdL_back : ∀ (l : List S37) (n : Int) (acc : List S37), (∀ x ∈ l, (ln x).2 = 0) → rdL n acc (l.map fun x => (ln x).1) = (acc ++ l.map bareS, 0, 0) := by
  intro l
  induction l with
  | nil => intro n acc h; simp [rdL]
  | cons x r ih =>
    intro n acc h
    obtain ⟨-, h2, h3, h4⟩ := ln_back x (h x (by simp))
    rw [List.map_cons, rdL, if_neg (by rw [h2]; simp), if_pos h3, ih _ _ (fun y hy => h y (by simp [hy])), h4]
    simp
theorem rd_txt (l : List S37) (h : ∀ x ∈ l, (ln x).2 = 0) : rd (txt l) = (l.map bareS, 0, 0) := by
  unfold rd
  rw [lines_txt l h, rdL_back l 1 [] h]
  simp
/-- An event of a good line is good and bare. -/
theorem wd_ge : ∀ (l : List UInt8) (n m : Nat), wd n l = some m → n ≤ m
  | [], n, m, h => by simp only [wd, Option.some.injEq] at h; omega
  | c :: r, n, m, h => by
    rw [wd] at h
    split at h
    · cases h
    · have := wd_ge r _ _ h; omega
theorem wid_ok {l : List UInt8} (h : (wid l).2 = true) : 1 ≤ (wid l).1 ∧ (wid l).1 ≤ 65535 := by
  unfold wid at h ⊢
  split at h
  · simp at h
  · rename_i hn
    rw [if_neg hn]
    split at h
    · simp at h
    · rename_i m hm
      simp only [decide_eq_true_eq] at h
      simp only
      refine ⟨?_, h⟩
      match l, hn, hm with
      | [], hn, _ => simp at hn
      | c :: r, hn, hm =>
        rw [wd] at hm
        split at hm
        · cases hm
        · rename_i hc
          have := wd_ge r _ _ hm
          have h48 : c ≠ 48 := fun e => hn (.inr (.inr (by rw [e]; rfl)))
          have h1 : ¬ c.toNat < 48 := fun h => hc (.inl (by rw [UInt8.lt_iff_toNat_lt]; exact h))
          have h2 : c.toNat ≠ 48 := fun h => h48 (by rw [← UInt8.toNat_inj]; exact h)
          omega
theorem evS_good (a : List UInt8) (h : evOk a = true) : (ln (evS a)).2 = 0 ∧ bareS (evS a) = evS a := by
  unfold evOk at h
  unfold evS
  unfold evt at h ⊢
  split at h
  · rename_i c1
    rw [if_pos c1]
    split at h
    · rename_i c2
      rw [if_pos c2]
      refine ⟨?_, rfl⟩
      unfold ln; rw [ls1]
    · rename_i c2
      rw [if_neg c2]
      split at h
      · rename_i c3
        rw [if_pos c3]
        simp only at h
        have hw := wid_ok h
        refine ⟨?_, rfl⟩
        unfold ln
        simp only
        rw [ls2b _ _ (by omega)]
      · rename_i c3
        rw [if_neg c3]
        split at h
        · rename_i c4
          rw [if_pos c4]
          split at h
          · rename_i c5
            rw [if_pos c5]
            refine ⟨?_, rfl⟩
            unfold ln; simp only; rw [ls3a]
          · rename_i c5
            rw [if_neg c5]
            split at h
            · rename_i c6
              rw [if_pos c6]
              refine ⟨?_, rfl⟩
              unfold ln; simp only; rw [ls3b]
            · simp at h
        · simp at h
  · simp at h
theorem rdL_cases : ∀ (ls : List (List UInt8)) (n : Int) (acc : List S37), 1 ≤ n → (∀ x ∈ acc, (ln x).2 = 0 ∧ bareS x = x) →
    ((∃ L, rdL n acc ls = (L, 0, 0) ∧ ∀ x ∈ L, (ln x).2 = 0 ∧ bareS x = x) ∨ ∃ m, 1 ≤ m ∧ rdL n acc ls = ([], m, 14)) := by
  intro ls
  induction ls with
  | nil => intro n acc hn ha; exact .inl ⟨acc, rfl, ha⟩
  | cons a r ih =>
    intro n acc hn ha
    rw [rdL]
    split
    · exact ih _ _ (by omega) ha
    · split
      · rename_i he
        refine ih _ _ (by omega) (fun x hx => ?_)
        rcases List.mem_append.mp hx with h | h
        · exact ha x h
        · simp only [List.mem_cons, List.not_mem_nil, or_false] at h
          subst h
          exact evS_good a he
      · exact .inr ⟨n, hn, rfl⟩
theorem rd_cases (t : List UInt8) : (∃ L, rd t = (L, 0, 0) ∧ ∀ x ∈ L, (ln x).2 = 0 ∧ bareS x = x) ∨ ∃ m, 1 ≤ m ∧ rd t = ([], m, 14) :=
  rdL_cases (lines t) 1 [] (by omega) (by simp)
/-- Sizes. -/
theorem cut1_false (c : UInt8) : ∀ l : List UInt8, (cut1 c l).2.2 = false → (cut1 c l).2.1 = []
  | [], _ => rfl
  | x :: r, h => by
    by_cases hx : x = c
    · simp [cut1, hx] at h
    · simp only [cut1, if_neg hx] at h ⊢
      exact cut1_false c r h
theorem unp_len : ∀ (n : Nat) (l b : List UInt8), unp n l = some b → b.length ≤ l.length := by
  intro n
  induction n with
  | zero =>
    intro l b h
    cases l with
    | nil => simp [unp] at h; simp [← h]
    | cons c r => simp [unp] at h
  | succ n ih =>
    intro l b h
    cases l with
    | nil => simp [unp] at h; simp [← h]
    | cons c r =>
      rw [unp] at h
      obtain ⟨p, hp, h⟩ := Option.bind_eq_some_iff.mp h
      obtain ⟨b', hb, rfl⟩ := Option.map_eq_some_iff.mp h
      have h1 := ih _ _ hb
      have h2 := one_lt (c := p.1) (r := p.2) hp
      simp only [List.length_cons] at *
      omega
theorem unpR_len (l : List UInt8) : (unpR l).1.length ≤ l.length := by
  unfold unpR
  cases h : unpiece l with
  | none => simp
  | some b => exact unp_len _ _ _ h
theorem evS_size (a : List UInt8) : (evS a).f1.size ≤ a.length := by
  unfold evS
  simp only
  rw [toB_size]
  unfold evt
  split
  · split
    · simp only
      have h1 := unpR_len (cut1 32 a).2.1
      have h2 := cut1_len 32 a
      omega
    · split
      · simp
      · split
        · split
          · simp
          · split <;> simp
        · simp
  · simp
theorem lines_sum (l : List UInt8) : ((lines l).map fun a => a.length + 1).sum ≤ l.length + 1 := by
  have : ∀ m (l : List UInt8), l.length ≤ m → ((lines l).map fun a => a.length + 1).sum ≤ l.length + 1 := by
    intro m
    induction m with
    | zero => intro l h; cases l with
      | nil => simp [lines]
      | cons c r => simp at h
    | succ m ih =>
      intro l h
      by_cases hl : l = []
      · subst hl; simp [lines]
      · have h1 := ih (cut1 10 l).2.1 (by have := cut1_rest 10 l hl; omega)
        have h2 := cut1_rest 10 l hl
        rw [lines_cut l hl]
        simp only [List.map_cons, List.sum_cons]
        by_cases hn : (cut1 10 l).2.2 = true
        · have h3 := congrArg List.length (cut1_join 10 l hn)
          simp only [List.length_append, List.length_cons] at h3
          omega
        · have h4 : (cut1 10 l).2.1 = [] := cut1_false 10 l (by simpa using hn)
          rw [h4]
          have h5 := cut1_len 10 l
          simp only [lines, List.map_nil, List.sum_nil]
          omega
  exact this _ l (Nat.le_refl _)
def szS (x : S37) : Nat := x.f1.size + 4
theorem rdL_sum : ∀ (ls : List (List UInt8)) (n : Int) (acc : List S37), ((rdL n acc ls).1.map szS).sum ≤ (acc.map szS).sum + 4 * (ls.map fun a => a.length + 1).sum := by
  intro ls
  induction ls with
  | nil => intro n acc; simp [rdL]
  | cons a r ih =>
    intro n acc
    rw [rdL]
    simp only [List.map_cons, List.sum_cons]
    split
    · have := ih (n + 1) acc; omega
    · split
      · have := ih (n + 1) (acc ++ [evS a])
        have h2 := evS_size a
        simp only [List.map_append, List.map_cons, List.map_nil, List.sum_append, List.sum_cons, List.sum_nil, szS] at *
        omega
      · simp
theorem rd_sum (t : List UInt8) : ((rd t).1.map szS).sum ≤ 4 * (t.length + 1) := by
  have h1 := rdL_sum (lines t) 1 []
  have h2 := lines_sum t
  unfold rd
  simp only [List.map_nil, List.sum_nil] at h1
  omega
theorem ln_len2 (x : S37) : (ln x).1.length ≤ 4 * x.f1.size + 15 := by
  have hp := piece_len x.f1.data.toList
  rw [size_len] at hp
  unfold ln lineS
  split
  · simp only [List.length_append, List.length_cons, List.length_nil]; omega
  · split
    · split
      · simp
      · have := dec_len 4 x.f2.toNat (by omega)
        simp only [List.length_append, List.length_cons, List.length_nil]; omega
    · split
      · split
        · simp
        · split <;> simp
      · simp
theorem txt_len (l : List S37) : (txt l).length ≤ 4 * (l.map szS).sum := by
  induction l with
  | nil => simp [txt]
  | cons x r ih =>
    have := ln_len2 x
    have e : txt (x :: r) = (ln x).1 ++ 10 :: txt r := by simp [txt]
    rw [e]
    simp only [List.length_append, List.length_cons, List.map_cons, List.sum_cons, szS] at *
    omega
theorem sum_len (l : List S37) : l.length ≤ (l.map szS).sum := by
  induction l with
  | nil => simp
  | cons x r ih => simp only [List.length_cons, List.map_cons, List.sum_cons, szS] at *; omega
theorem sum_mem (l : List S37) : ∀ y ∈ l, y.f1.size ≤ (l.map szS).sum := by
  induction l with
  | nil => simp
  | cons x r ih =>
    intro y hy
    simp only [List.map_cons, List.sum_cons, szS]
    rcases List.mem_cons.mp hy with rfl | hy
    · omega
    · have := ih y hy; omega
theorem map_bare (l : List S37) (h : ∀ x ∈ l, bareS x = x) : l.map bareS = l := by
  rw [List.map_congr_left h, List.map_id']
theorem rdL_mem : ∀ (ls : List (List UInt8)) (n : Int) (acc : List S37) (C : Nat), (∀ a ∈ ls, a.length ≤ C) → (∀ x ∈ acc, x.f1.size ≤ C) → ∀ x ∈ (rdL n acc ls).1, x.f1.size ≤ C := by
  intro ls
  induction ls with
  | nil => intro n acc C _ ha x hx; exact ha x hx
  | cons a r ih =>
    intro n acc C hl ha x hx
    rw [rdL] at hx
    split at hx
    · exact ih _ _ C (fun b hb => hl b (by simp [hb])) ha x hx
    · split at hx
      · refine ih _ _ C (fun b hb => hl b (by simp [hb])) (fun y hy => ?_) x hx
        rcases List.mem_append.mp hy with h | h
        · exact ha y h
        · simp only [List.mem_cons, List.not_mem_nil, or_false] at h
          subst h
          exact Nat.le_trans (evS_size a) (hl a (by simp))
      · simp at hx
theorem rd_mem (t : List UInt8) : ∀ x ∈ (rd t).1, x.f1.size ≤ t.length := rdL_mem (lines t) 1 [] t.length (lines_len t).2 (by simp)
end Go.Proofs.YtibgefampokfkaaDoor.Sc
