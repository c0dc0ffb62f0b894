/- Digits are a count for the next command alone. -/
import Derived.Test.YtgkaiagoogjibaaBkD
import Derived.Test.YtgkaiagoogjibaaPBindx20
namespace Go.Proofs.Ytgkaiagoogjibaa.Bk
open Go Go.RowKit Go.Proofs.Ytgkaiagoogjibaa.PBind Go.Proofs.YtgkaiagoogjibaaW.PrintWords Go.Proofs.YtgkaiagoogjibaaW.PrintLast Go.Proofs.YtgkaiagoogjibaaW.PrintMore
set_option linter.unusedVariables false

theorem key_at {k : Nat} (hk : 40 ≤ k) {p : Int} {cs : Bool} {cn : Int} (kind c : Int) (ct mt sh : Bool) (tx : ByteArray) (h0 : 0 ≤ cn) (h1 : cn ≤ 1000) {x : (Int × Int × ByteArray × Int × Bool) × (Int × Bool × Int)} (e : keyS p cs cn kind c ct mt tx = x) :
    bind_Binder_Key.f k p cs cn kind c ct mt sh tx = some (x.1.1, x.1.2.1, x.1.2.2.1, x.1.2.2.2.1, x.1.2.2.2.2, x.2.1, x.2.2.1, x.2.2.2) := by
  have h := key_of (k - 40) p cs cn kind c ct mt sh tx h0 h1
  rw [e, show k - 40 + 40 = k by omega] at h
  exact h
theorem tmod10 {d : Int} (h : 0 ≤ d) (h1 : d < 256) : wrap32 (Int.tmod d 10) = d % 10 ∧ wrap64 (Int.tmod d 10) = d % 10 := by
  rw [Int.tmod_eq_emod_of_nonneg h]
  exact ⟨wrap32_id (by omega) (by omega), wrap64_id (by omega) (by omega)⟩
/-- A digit's key, behind digits or with Meta: no command, one more digit waits. -/
theorem digit_key {cs : Bool} {cn d : Int} (h : 0 ≤ d) (h1 : d < 256) (mt : Bool) (hm : mt = true ∨ cs = true) :
    keyS 0 cs cn 1 (48 + d % 10) false mt ⟨#[]⟩ = ((0, 0, ⟨#[]⟩, 0, false), (0, true, mn (cn * 10 + d % 10) 1000)) := by
  unfold keyS
  have hd : isDig 0 cs 1 (48 + d % 10) false mt = true := by
    unfold isDig
    have a : (48 : Int) ≤ 48 + d % 10 := by omega
    have b : 48 + d % 10 ≤ (57 : Int) := by omega
    rcases hm with rfl | rfl <;> simp [a, b]
  rw [if_pos hd]
  unfold dig
  rw [show 48 + d % 10 - 48 = d % 10 by omega]
/-- The key behind the digits: the single key's command, with the count. -/
theorem next_key {cs : Bool} {cn kind c : Int} {ct mt : Bool} {tx : ByteArray} (hs : (keyS 0 false 0 kind c ct mt tx).1.2.2.2.2 = true) (hk : (keyS 0 false 0 kind c ct mt tx).1.1 ≠ 37)
    (hd : isDig 0 cs kind c ct mt = false) : ∃ a b d, keyS 0 false 0 kind c ct mt tx = ((a, 1, b, d, true), (0, false, 0)) ∧ keyS 0 cs cn kind c ct mt tx = ((a, cnt cs cn, b, d, true), (0, false, 0)) := by
  unfold keyS at hs hk ⊢
  by_cases h : isDig 0 false kind c ct mt = true
  · rw [if_pos h] at hs; exact absurd hs (by simp)
  · rw [if_neg h] at hs hk ⊢
    rw [if_neg (show ¬ isDig 0 cs kind c ct mt = true by rw [hd]; decide)]
    by_cases h2 : (0 : Int) = 0 ∧ pfx kind c ct mt ≠ 0
    · rw [if_pos h2] at hs; exact absurd hs (by simp)
    · rw [if_neg h2] at hk ⊢
      simp only at hk
      rw [if_neg h2]
      simp only [if_neg hk]
      exact ⟨_, _, _, rfl, rfl⟩
theorem mn_range {a : Int} (h : 0 ≤ a) : 0 ≤ mn a 1000 ∧ mn a 1000 ≤ 1000 := by unfold mn; split <;> omega
theorem counts_end (k : Nat) (x10 : Int) (h0 : 0 ≤ x10) (h1 : x10 ≤ 1000) (kind c : Int) (ct mt sh : Bool) (tx : ByteArray) (a n0 d : Int) (b : ByteArray) (hk : 60 ≤ k)
    (hs : (keyS 0 false 0 kind c ct mt tx).1.2.2.2.2 = true) (ha : a ≠ 37) (e0 : keyS 0 false 0 kind c ct mt tx = ((a, n0, b, d, true), (0, false, 0))) :
    bodkinlaw19_BindCounts.j3 (k + 1) (mx x10 1) false kind c ct mt sh tx a n0 b d 0 true x10 = some true := by
  rw [bodkinlaw19_BindCounts.j3, if_neg (by decide)]
  have j4 : ∀ g : Bool, (g = false → isDig 0 true kind c ct mt = false) → bodkinlaw19_BindCounts.j4 k (mx x10 1) g kind c ct mt sh tx a n0 b d 0 true x10 = some true := by
    intro g hg
    rw [show k = (k - 1) + 1 by omega, bodkinlaw19_BindCounts.j4]
    cases g with
    | true => rw [if_pos rfl]
    | false =>
      rw [if_neg (by decide)]
      obtain ⟨a', b', d', e1, e2⟩ := next_key (cn := x10) hs (by rw [e0]; exact ha) (hg rfl)
      rw [e0] at e1
      simp only [Prod.mk.injEq] at e1
      obtain ⟨⟨rfl, rfl, rfl, rfl, -⟩, -⟩ := e1
      rw [key_at (by omega) kind c ct mt sh tx h0 h1 e2, Option.bind_some]
      simp only
      rw [if_pos trivial]
      have he : eqb36 a a (cnt true x10) (mx x10 1) b b d d = true := by
        have : cnt true x10 = mx x10 1 := rfl
        rw [this]; exact eqb36_self _ _ _ _
      rw [he, show k - 1 = (k - 2) + 1 by omega, bodkinlaw19_BindCounts.j5, if_neg (by decide), key_at (by omega) kind c ct mt sh tx (by omega) (by omega) e0, Option.bind_some]
      simp only [count_of, Option.bind_some]
      rw [if_pos trivial, if_pos (eqb36_self _ _ _ _)]
      rfl
  have nodig : (kind ≠ 1 ∨ ct = true ∨ c < 48 ∨ 57 < c) → isDig 0 true kind c ct mt = false := by
    intro h
    cases hd : isDig 0 true kind c ct mt with
    | false => rfl
    | true =>
      unfold isDig at hd
      simp only [Bool.and_eq_true, decide_eq_true_eq, Bool.not_eq_true'] at hd
      rcases h with h | h | h | h
      · exact absurd hd.2.1 h
      · rw [h] at hd; exact absurd hd.2.2.1 (by decide)
      · omega
      · omega
  by_cases q1 : kind = 1
  · rw [if_pos q1]
    by_cases q2 : ct = true
    · rw [if_pos q2]; exact j4 false fun _ => nodig (.inr (.inl q2))
    · rw [if_neg q2]
      by_cases q3 : c ≥ 48
      · rw [if_pos q3]
        by_cases q4 : c ≤ 57
        · exact j4 _ fun h => absurd h (by simp [q4])
        · exact j4 _ fun _ => nodig (.inr (.inr (.inr (by omega))))
      · rw [if_neg q3]; exact j4 false fun _ => nodig (.inr (.inr (.inl (by omega))))
  · rw [if_neg q1]; exact j4 false fun _ => nodig (.inl q1)

theorem char_of (c : Int) (b : Bool) : bodkinlaw19_char.f c b = some (1, c, false, b, false, ⟨#[]⟩) := rfl
theorem counts_loop (ds : List Int) (hb : ∀ x ∈ ds, 0 ≤ x ∧ x < 256) (ms : List Bool) (hl : ds.length < 1000000000000000) (kind c : Int) (ct mt sh : Bool) (tx : ByteArray) (a n0 d : Int) (b : ByteArray)
    (hs : (keyS 0 false 0 kind c ct mt tx).1.2.2.2.2 = true) (ha : a ≠ 37) (e0 : keyS 0 false 0 kind c ct mt tx = ((a, n0, b, d, true), (0, false, 0))) :
    ∀ (n m : Nat) (i : Int) (cs : Bool) (cn : Int), 0 ≤ cn → cn ≤ 1000 → 0 ≤ i → i + n = (ds.length : Int) → (cs = true ∨ (i = 0 ∧ 0 < n)) → 2 * n + 100 < m →
      bodkinlaw19_BindCounts.l0 m ms cn ds (ds.length : Int) i kind c ct mt sh tx a n0 b d 0 cs cn = some true := by
  intro n
  induction n with
  | zero =>
    intro m i cs cn h0 h1 hi hn hc hm
    obtain ⟨m, rfl⟩ : ∃ q, m = (q + 1) + 1 := ⟨m - 2, by omega⟩
    have hcs : cs = true := hc.elim id fun h => absurd h.2 (by omega)
    subst hcs
    rw [bodkinlaw19_BindCounts.l0, if_neg (by omega), count_of, Option.bind_some]
    simp only
    rw [if_pos (show cnt true cn = mx cn 1 from rfl)]
    exact counts_end m cn h0 h1 kind c ct mt sh tx a n0 d b (by omega) hs ha e0
  | succ n ih =>
    intro m i cs cn h0 h1 hi hn hc hm
    obtain ⟨m, rfl⟩ : ∃ q, m = (q + 1) + 1 := ⟨m - 2, by omega⟩
    have hd : 0 ≤ rd ds i ∧ rd ds i < 256 := by
      unfold rd
      have hlt : i.toNat < ds.length := by omega
      rw [List.getD_eq_getElem?_getD, List.getElem?_eq_getElem hlt, Option.getD_some]
      exact hb _ (List.getElem_mem hlt)
    have j2 : ∀ g : Bool, (g = true ∨ cs = true) → bodkinlaw19_BindCounts.j2 (m + 1) ms cn (rd ds i) g ds (ds.length : Int) i kind c ct mt sh tx a n0 b d 0 cs cn = some true := by
      intro g hg
      rw [bodkinlaw19_BindCounts.j2, char_of, Option.bind_some]
      obtain ⟨t32, t64⟩ := tmod10 hd.1 hd.2
      simp only [t32, t64]
      rw [wrap32_id (x := 48 + rd ds i % 10) (by omega) (by omega), key_at (by omega) 1 (48 + rd ds i % 10) false g false ⟨#[]⟩ h0 h1 (digit_key hd.1 hd.2 g hg), Option.bind_some]
      simp only
      rw [if_neg (by decide), if_pos (eqb36_self _ _ _ _)]
      have hp : ∀ cs cn, bind_Binder_Prefix.f 0 cs cn = some (⟨#[]⟩, 0, cs, cn) := fun _ _ => rfl
      rw [hp, Option.bind_some]
      simp only
      rw [if_pos (by kernel_rfl)]
      have hr := mn_range (a := cn * 10 + rd ds i % 10) (by omega)
      rw [wrap64_id (x := cn * 10) (by omega) (by omega), wrap64_id (x := cn * 10 + rd ds i % 10) (by omega) (by omega), wrap64_id (x := i + 1) (by omega) (by omega)]
      exact ih m (i + 1) true _ hr.1 hr.2 (by omega) (by omega) (.inl rfl) (by omega)
    rw [bodkinlaw19_BindCounts.l0, if_pos (by omega), if_pos hi, if_pos (by omega)]
    by_cases q : i = 0
    · rw [if_pos q]; exact j2 true (.inl rfl)
    · rw [if_neg q]
      have hcs : cs = true := hc.elim id fun h => absurd h.1 q
      by_cases q2 : i < (ms.length : Int)
      · rw [if_pos q2]; exact j2 _ (.inr hcs)
      · rw [if_neg q2]; exact j2 _ (.inr hcs)
theorem counts_true (ds : List Int) (hb : ∀ x ∈ ds, 0 ≤ x ∧ x < 256) (ms : List Bool) (hl : ds.length < 1000000000000000) (kind c : Int) (ct mt sh : Bool) (tx : ByteArray) :
    bodkinlaw19_BindCounts.f (2 * ds.length + 200 + 100 + 1) ds ms kind c ct mt sh tx = some true := by
  unfold bodkinlaw19_BindCounts.f
  rw [binds_true, Option.bind_some, if_pos rfl]
  unfold bind_Single.f
  have hnew : bind_New.f = some (0, false, 0) := rfl
  obtain ⟨x, e0⟩ : ∃ x, keyS 0 false 0 kind c ct mt tx = x := ⟨_, rfl⟩
  simp only [hnew, Option.bind_some]
  rw [key_at (by omega) kind c ct mt sh tx (by omega) (by omega) e0]
  simp only [Option.bind_some]
  have j0t : ∀ (a n0 : Int) (b : ByteArray) (d : Int), bodkinlaw19_BindCounts.j0 (2 * ds.length + 200 + 100 + 1) ds ms true kind c ct mt sh tx a n0 b d = some true := by
    intro a n0 b d; rw [bodkinlaw19_BindCounts.j0, if_pos rfl]
  by_cases h : x.1.2.2.2.2 = true
  · rw [if_pos h]
    by_cases h2 : x.1.1 = 37
    · rw [if_pos h2]; exact j0t _ _ _ _
    · rw [if_neg h2]
      by_cases h3 : ((ds.length : Int) == 0) = true
      · rw [h3]; exact j0t _ _ _ _
      · have h3' : ((ds.length : Int) == 0) = false := by simpa using h3
        have h4 : ds.length ≠ 0 := by intro h; rw [h] at h3; exact h3 rfl
        rw [h3', bodkinlaw19_BindCounts.j0, if_neg (by decide), hnew, Option.bind_some]
        have hx : x = ((x.1.1, x.1.2.1, x.1.2.2.1, x.1.2.2.2.1, true), (0, false, 0)) := by
          obtain ⟨a', b', d', e1, -⟩ := next_key (cs := false) (cn := 0) (by rw [e0]; exact h) (by rw [e0]; exact h2) (by
            cases hd : isDig 0 false kind c ct mt with
            | false => rfl
            | true => unfold keyS at e0; rw [if_pos hd] at e0; rw [← e0] at h; exact absurd h (by simp))
          rw [e0] at e1; rw [e1]
        exact counts_loop ds hb ms hl kind c ct mt sh tx x.1.1 x.1.2.1 x.1.2.2.2.1 x.1.2.2.1 (by rw [e0]; exact h) h2 (e0.trans hx) ds.length _ 0 false 0 (by omega) (by omega) (by omega) (by omega) (.inr ⟨rfl, by omega⟩) (by omega)
  · rw [if_neg h]; exact j0t _ _ _ _
end Go.Proofs.Ytgkaiagoogjibaa.Bk
