/- What a reading of the arguments gives a walk: rows of anything; the bulk of each element. -/
import Derived.Test.YtoodidokjchplaaDoorRows
import Derived.WalkKit
import Derived.ProofKit
import Derived.OpenShut
import Derived.ShutString
import Derived.ChangeOld
import Derived.Deep.Slices
import Derived.Deep.Grids
import Derived.SizedLaws
import Derived.Test.YtoodidokjchplaaDoorJN
import Derived.Lib.LaidU8
import Derived.LaidSub
import Derived.MakeChecks
namespace Go.Proofs.YtoodidokjchplaaDoor.Op
open Go.ChangeShapes Go.WideShapes Go.ChangeAt Go.RowKit Go.Deep
open Go.ChangeMaps (open_string shut_string)
set_option linter.unusedVariables false

theorem one_le {H : Type} (d : DataW H) : 1 ≤ Rows.uptoBulk d := by
  cases d with
  | lit l => cases l <;> simp [Rows.uptoBulk]
  | nil => simp [Rows.uptoBulk]
  | ptr d => simp [Rows.uptoBulk]
  | slice elems spare => simp [Rows.uptoBulk]
  | agg parts => simp [Rows.uptoBulk]
  | iface t d => simp [Rows.uptoBulk]
  | map entries => simp [Rows.uptoBulk]
  | held h => simp [Rows.uptoBulk]
theorem length_le {H : Type} (l : List (DataW H)) : l.length ≤ Rows.uptoBulkAll l := by
  induction l with
  | nil => simp [Rows.uptoBulkAll]
  | cons x r ih => have := one_le x; simp only [Rows.uptoBulkAll, List.length_cons]; omega
theorem part_le {H : Type} {d : DataW H} {l : List (DataW H)} (h : d ∈ l) : Rows.uptoBulk d ≤ Rows.uptoBulkAll l := by
  induction l with
  | nil => cases h
  | cons x r ih =>
    simp only [Rows.uptoBulkAll]
    cases List.mem_cons.1 h with
    | inl e => subst e; omega
    | inr e => have := ih e; omega
theorem bound {H : Type} {l r : List (DataW H)} (hk : Rows.uptoSmall H (l ++ r) = true) : Rows.uptoBulkAll l ≤ 1048576 := by
  have h2 := of_decide_eq_true hk
  have h3 : ∀ l r : List (DataW H), Rows.uptoBulkAll (l ++ r) = Rows.uptoBulkAll l + Rows.uptoBulkAll r := by
    intro l r
    induction l with
    | nil => simp [Rows.uptoBulkAll]
    | cons x l ih => simp only [List.cons_append, Rows.uptoBulkAll, ih]; omega
  rw [h3] at h2
  omega
theorem b1 {H : Type} {d0 : DataW H} {n : Nat} (h : Rows.uptoBulkAll [d0] ≤ n) : Rows.uptoBulk d0 ≤ n := by simp only [Rows.uptoBulkAll] at h; omega
theorem b2 {H : Type} {d0 d1 : DataW H} {n : Nat} (h : Rows.uptoBulkAll [d0, d1] ≤ n) : Rows.uptoBulk d0 + Rows.uptoBulk d1 ≤ n := by simp only [Rows.uptoBulkAll] at h; omega
theorem b3 {H : Type} {d0 d1 d2 : DataW H} {n : Nat} (h : Rows.uptoBulkAll [d0, d1, d2] ≤ n) : Rows.uptoBulk d0 + Rows.uptoBulk d1 + Rows.uptoBulk d2 ≤ n := by simp only [Rows.uptoBulkAll] at h; omega
theorem b4 {H : Type} {d0 d1 d2 d3 : DataW H} {n : Nat} (h : Rows.uptoBulkAll [d0, d1, d2, d3] ≤ n) : Rows.uptoBulk d0 + Rows.uptoBulk d1 + Rows.uptoBulk d2 + Rows.uptoBulk d3 ≤ n := by simp only [Rows.uptoBulkAll] at h; omega
theorem str_bulk {H : Type} (s : ByteArray) : s.size + 1 = Rows.uptoBulk (DataW.lit (H := H) (.string s.data.toList)) := by simp [Rows.uptoBulk]
section
variable {H : Type} {enc : TypeId × Value → H} {W : World} {base : Nat} {sp : Nat → Bool} {held : Bool}
/-- A row of anything whose elements can be opened; each element's datum is a part of the row's. -/
theorem open_row {α : Type} (sz : Nat) (K : α → List Value → Prop) (z : α) (Q : α → DataW H → Prop) {e : TypeId} (hz : Tryd.prog.cellsOf e = sz) (hel : ∀ (n : Nat) (cs : List Value) (x : DataW H × List MemPlace), cs.length = sz → DataW.trod enc Tryd.prog W base sp held n e cs = some x → ∃ s : α, Q s x.1 ∧ K s cs)
    {fuel : Nat} {t : TypeId} (ht : Tryd.prog.underlying t = some (.slice e)) {a : Option Addr} {len cap : Nat} {x : DataW H × List MemPlace} (h : DataW.trod enc Tryd.prog W base sp held fuel t [.slice a len cap] = some x) :
    ∃ l : List α, l.length = len ∧ (∀ i (hi : i < l.length), ∃ ad : Addr, a = some ad ∧ ∃ c, c.length = sz ∧ K l[i] c ∧ ∀ j u, c[j]? = some u → W.cell? (ad.add (i * sz + j)) = some u) ∧ len ≤ cap ∧ cap ≤ maxLen ∧ len + 1 ≤ Rows.uptoBulk x.1 ∧ ∀ y ∈ l, ∃ d, Q y d ∧ Rows.uptoBulk d ≤ Rows.uptoBulk x.1 := by
  rcases open_slice ht h with ⟨hcs, hxx⟩ | ⟨a', len', cap', m, n, D, Pl, hcs, hb, hl, hm, hmm, hxx, hx⟩
  · simp only [List.cons.injEq, Value.slice.injEq, and_true] at hcs
    obtain ⟨rfl, rfl, rfl⟩ := hcs
    exact ⟨[], rfl, fun i hi => absurd hi (by simp), by omega, by unfold maxLen; omega, by have := one_le x.1; omega, by simp⟩
  · simp only [List.cons.injEq, Value.slice.injEq, and_true] at hcs
    obtain ⟨rfl, rfl, rfl⟩ := hcs
    have hm' : len ≤ m := by rw [hmm]; split <;> omega
    have hbk : Rows.uptoBulkAll ((List.range len).map D) + 1 ≤ Rows.uptoBulk x.1 := by
      rw [hxx]; simp only [Rows.uptoBulk]; omega
    have hex : ∀ i, ∃ s : α, i < len → Q s (D i) ∧ ∃ c, c.length = sz ∧ K s c ∧ ∀ j u, c[j]? = some u → W.cell? (a'.add (i * sz + j)) = some u := by
      intro i
      by_cases hi : i < len
      · obtain ⟨cs', h1, h2⟩ := hx i (by omega)
        rw [hz] at h1
        have h3 := World.cells?_some h1
        obtain ⟨s, hq, hk⟩ := hel n cs' _ h3.2.1 h2
        refine ⟨s, fun _ => ⟨hq, cs', h3.2.1, hk, fun j u hu => ?_⟩⟩
        have hj : j < sz := by
          have := (List.getElem?_eq_some_iff.mp hu).1
          rw [h3.2.1] at this; exact this
        have h4 := h3.2.2 j hj
        rw [hu, Addr.add_add] at h4
        exact h4
      · exact ⟨z, fun h => absurd h hi⟩
    obtain ⟨f, hf⟩ := Classical.axiomOfChoice hex
    refine ⟨(List.range len).map f, by simp, fun j hj => ?_, hl, hm, ?_, fun y hy => ?_⟩
    · have hj' : j < len := by simpa using hj
      have e : ((List.range len).map f)[j] = f j := by simp
      rw [e]
      exact ⟨a', rfl, (hf j hj').2⟩
    · have := length_le ((List.range len).map D)
      simp at this
      omega
    · obtain ⟨i, hi, rfl⟩ := List.mem_map.mp hy
      refine ⟨D i, (hf i (List.mem_range.mp hi)).1, ?_⟩
      have := part_le (d := D i) (l := (List.range len).map D) (List.mem_map.mpr ⟨i, hi, rfl⟩)
      omega
end
end Go.Proofs.YtoodidokjchplaaDoor.Op
/- The tables off the list; what every law of this seat opens. -/
namespace Go.Proofs.YtoodidokjchplaaDoor.Op
open Go Go.Lib
set_option linter.unusedVariables false
theorem u8x : U8Extra Tryd.prog Tryd.lays260_ren := ⟨by kernel_rfl, by kernel_rfl, by kernel_rfl, by kernel_rfl, by kernel_rfl, by kernel_rfl, by kernel_rfl⟩
theorem of_filter {laid : List (String × DataW Unit)} {W : World} {n : String} {d : DataW Unit} (h : laidMet Tryd.prog laid W) (hm : laid.filter (fun x => x.1 == n) = [(n, d)]) : (n, d) ∈ laid :=
  (List.mem_filter.mp (show (n, d) ∈ laid.filter (fun x => x.1 == n) from hm ▸ List.mem_singleton.mpr rfl)).1
theorem tb_of {laid : List (String × DataW Unit)} {W : World} (h : laidMetH Tryd.prog laid W) (hs : W.ShapedOpen Tryd.prog) (hp : (laid.all fun x => x.2.handleName?.isNone) = true)
    (h1 : laid.filter (fun x => x.1 == "unicode/utf8.first") = [("unicode/utf8.first", firstData)]) (h2 : laid.filter (fun x => x.1 == "unicode/utf8.acceptRanges") = [("unicode/utf8.acceptRanges", acceptData)]) : Un.Tb W := by
  rw [MakeChecks.laidMetH_plain _ _ _ hp] at h
  exact ⟨utf8Tabs_of_reads Tryd.lays260 u8x (laidMet.reads h (of_filter h h1)) (laidMet.reads h (of_filter h h2))⟩
end Go.Proofs.YtoodidokjchplaaDoor.Op
