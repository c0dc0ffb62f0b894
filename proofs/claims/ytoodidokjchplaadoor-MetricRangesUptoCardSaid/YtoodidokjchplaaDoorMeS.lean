/- Summaries; nothing of Go's memory. -/
import Derived.Test.YtoodidokjchplaaDoorMeR
namespace Go.Proofs.YtoodidokjchplaaDoor.Un
set_option linter.unusedVariables false
set_option linter.unusedSimpArgs false
/-- A summary: bytes, units, clusters, cells, line feeds, the first and the last bytes. -/
structure Sm where
  by' : Int
  un : Int
  cl : Int
  ce : Int
  nl : Int
  hd : List UInt8
  tl : List UInt8
deriving DecidableEq
def sm0 : Sm := ⟨0, 0, 0, 0, 0, [], []⟩
def meas (l : List UInt8) : Sm := ⟨l.length, cU l, cC l, cX l, l.count 10, hd l, tl l⟩
/-- Two summaries, one behind the other. -/
def pairS (a b : Sm) : Sm :=
  ⟨a.by' + b.by', a.un + b.un + cU (a.tl ++ b.hd) - cU a.tl - cU b.hd, a.cl + b.cl + cC (a.tl ++ b.hd) - cC a.tl - cC b.hd, a.ce + b.ce + cX (a.tl ++ b.hd) - cX a.tl - cX b.hd, a.nl + b.nl,
    if a.hd.length < 16 then hd (a.hd ++ b.hd) else a.hd, if b.tl.length < 16 then tl (a.tl ++ b.tl) else b.tl⟩
theorem hd_len (l : List UInt8) : (hd l).length = min 16 l.length := by unfold hd; rw [List.length_take]
theorem tl_len (l : List UInt8) : (tl l).length = min 16 l.length := back_len 16 l
theorem hd_app (a b : List UInt8) : hd (a ++ b) = if (hd a).length < 16 then hd (hd a ++ hd b) else hd a := by
  by_cases h : (hd a).length < 16
  · rw [if_pos h]
    rw [hd_len] at h
    have e : hd a = a := List.take_of_length_le (by omega)
    rw [e]
    unfold hd
    rw [List.take_append, List.take_append, List.take_take]
    congr 2; omega
  · rw [if_neg h]
    rw [hd_len] at h
    exact List.take_append_of_le_length (by omega)
theorem tl_app (a b : List UInt8) : tl (a ++ b) = if (tl b).length < 16 then tl (tl a ++ tl b) else tl b := by
  by_cases h : (tl b).length < 16
  · rw [if_pos h]
    rw [tl_len] at h
    have e : tl b = b := back_all (by omega)
    rw [e]
    unfold tl
    rw [back_over (by omega), back_over (by omega), back_back a (by omega)]
  · rw [if_neg h]
    rw [tl_len] at h
    exact back_app (by omega)
theorem pair_meas (a b : List UInt8) : pairS (meas a) (meas b) = meas (a ++ b) := by
  have h1 := seamU a b
  have h2 := seamC a b
  have h3 := seamX a b
  unfold pairS meas
  simp only [Sm.mk.injEq]
  refine ⟨by rw [List.length_append]; omega, by omega, by omega, by omega, by rw [List.count_append]; omega, (hd_app a b).symm, (tl_app a b).symm⟩
theorem meas_nil : meas [] = sm0 := by
  unfold meas sm0 cU cC cX
  rw [units_nil]
  rfl
theorem meas_zero {l : List UInt8} (h : meas l = sm0) : l = [] := by
  have := congrArg Sm.by' h
  simp only [meas, sm0] at this
  exact List.eq_nil_of_length_eq_zero (by omega)
/-- Join: the summaries one behind the other; the zero one is replaced. -/
def joinS : Sm → List Sm → Sm
  | m, [] => m
  | m, p :: r => joinS (if m = sm0 then p else pairS m p) r
theorem join_meas : ∀ (L : List (List UInt8)) (a : List UInt8), joinS (meas a) (L.map meas) = meas (a ++ L.flatten)
  | [], a => by simp [joinS]
  | b :: L, a => by
    rw [List.map_cons]
    unfold joinS
    have e : (if meas a = sm0 then meas b else pairS (meas a) (meas b)) = meas (a ++ b) := by
      by_cases h : meas a = sm0
      · rw [if_pos h, meas_zero h]; rfl
      · rw [if_neg h, pair_meas]
    rw [e, join_meas L (a ++ b), List.flatten_cons, List.append_assoc]
theorem join_all (L : List (List UInt8)) : joinS sm0 (L.map meas) = meas L.flatten := by
  have := join_meas L []
  rwa [meas_nil, List.nil_append] at this
/-! Bounds. -/
theorem cU_le (l : List UInt8) : cU l ≤ l.length := units_len l.length l (Nat.le_refl _)
theorem nCl_le : ∀ (p : Option Int) (U : List (Int × Nat)), nCl p U ≤ U.length
  | _, [] => Nat.le_refl _
  | p, (c, n) :: r => by
    have := nCl_le (some c) r
    simp only [nCl, List.length_cons]
    split <;> omega
theorem xCl_le : ∀ (p : Option Int) (U : List (Int × Nat)), 0 ≤ xCl p U ∧ xCl p U ≤ 2 * U.length
  | _, [] => ⟨Int.le_refl _, by simp [xCl]⟩
  | p, (c, n) :: r => by
    have := xCl_le (some c) r
    have hc := cel_range c
    simp only [xCl, List.length_cons]
    split
    · omega
    · split <;> omega
theorem cC_le (l : List UInt8) : cC l ≤ l.length := Nat.le_trans (nCl_le _ _) (cU_le l)
theorem cX_le (l : List UInt8) : 0 ≤ cX l ∧ cX l ≤ 2 * l.length := by
  have := xCl_le none (unitsOf l)
  have := cU_le l
  unfold cU at this
  unfold cX
  omega
end Go.Proofs.YtoodidokjchplaaDoor.Un
