/- A key that a caller hands over, and a row of keys: what a reading of them gives a walk. -/
import Derived.Test.YtgkaiagoogjibaaPBindx0
import Derived.WalkKit
import Derived.ProofKit
import Derived.OpenShut
import Derived.ShutString
import Derived.ChangeOld
import Derived.Lib.SmallJoins
import Derived.Deep.Slices
import Derived.Deep.Grids
import Derived.SizedLaws
namespace Go.Proofs.Ytgkaiagoogjibaa.Bk
open Go.ChangeShapes Go.WideShapes Go.ChangeAt Go.RowKit Go.Deep Go.Proofs.Ytgkaiagoogjibaa.PBind Go.Proofs.YtgkaiagoogjibaaW.PrintWords
open Go.ChangeMaps (open_string shut_string)

theorem cells25 : Try.prog.cellsOf 25 = 6 := by kernel_rfl
theorem cells23 : Try.prog.cellsOf 23 = 1 := by kernel_rfl
theorem cells21 : Try.prog.cellsOf 21 = 1 := by kernel_rfl
theorem cells4 : Try.prog.cellsOf 4 = 1 := by kernel_rfl
theorem cells9 : Try.prog.cellsOf 9 = 1 := by kernel_rfl
section
variable {H : Type} {enc : TypeId × Value → H} {W : World} {base : Nat} {sp : Nat → Bool} {held : Bool}
theorem struct6 {t : TypeId} {f0 f1 f2 f3 f4 f5 : Field} {fuel : Nat} {cs : List Value} {x : DataW H × List MemPlace} (ht : Try.prog.underlying t = some (.struct #[f0, f1, f2, f3, f4, f5])) (h : DataW.trod enc Try.prog W base sp held fuel t cs = some x) :
    ∃ y0 y1 y2 y3 y4 y5 n, cs.length = Try.prog.cellsOf t ∧ DataW.trod enc Try.prog W base sp held n f0.type ((cs.drop f0.offset).take (Try.prog.cellsOf f0.type)) = some y0 ∧
      DataW.trod enc Try.prog W base sp held n f1.type ((cs.drop f1.offset).take (Try.prog.cellsOf f1.type)) = some y1 ∧ DataW.trod enc Try.prog W base sp held n f2.type ((cs.drop f2.offset).take (Try.prog.cellsOf f2.type)) = some y2 ∧
      DataW.trod enc Try.prog W base sp held n f3.type ((cs.drop f3.offset).take (Try.prog.cellsOf f3.type)) = some y3 ∧ DataW.trod enc Try.prog W base sp held n f4.type ((cs.drop f4.offset).take (Try.prog.cellsOf f4.type)) = some y4 ∧
      DataW.trod enc Try.prog W base sp held n f5.type ((cs.drop f5.offset).take (Try.prog.cellsOf f5.type)) = some y5 := by
  obtain ⟨xs, n, _, rfl, hl, hlen, hf⟩ := DataW.trod_struct ht h
  match xs, hlen with
  | [y0, y1, y2, y3, y4, y5], _ => exact ⟨y0, y1, y2, y3, y4, y5, n, hl, by simpa using hf 0 f0 rfl, by simpa using hf 1 f1 rfl, by simpa using hf 2 f2 rfl, by simpa using hf 3 f3 rfl, by simpa using hf 4 f4 rfl, by simpa using hf 5 f5 rfl⟩
theorem six {α : Type} {cs : List α} (h : cs.length = 6) : ∃ a b c d e f, cs = [a, b, c, d, e, f] := by
  match cs, h with
  | [a, b, c, d, e, f], _ => exact ⟨a, b, c, d, e, f, rfl⟩
/-- A key's six cells. -/
theorem open_key {fuel : Nat} {cs : List Value} {x : DataW H × List MemPlace} (h : DataW.trod enc Try.prog W base sp held fuel 25 cs = some x) :
    ∃ s : S25, cs = [.int .i64 s.f0, .int .i32 s.f1, .bool s.f2, .bool s.f3, .bool s.f4, .string s.f5] := by
  obtain ⟨y0, y1, y2, y3, y4, y5, n, hl, t0, t1, t2, t3, t4, t5⟩ := struct6 Try.underlying25 h
  rw [cells25] at hl
  obtain ⟨c0, c1, c2, c3, c4, c5, rfl⟩ := six hl
  simp only [cells23, cells21, cells4, cells9, List.drop, List.take] at t0 t1 t2 t3 t4 t5
  obtain ⟨n0, h0, -⟩ := DataW.trod_int Try.underlying23 t0
  obtain ⟨n1, h1, -⟩ := DataW.trod_int Try.underlying21 t1
  obtain ⟨n2, h2, -⟩ := DataW.trod_bool Try.underlying4 t2
  obtain ⟨n3, h3, -⟩ := DataW.trod_bool Try.underlying4 t3
  obtain ⟨n4, h4, -⟩ := DataW.trod_bool Try.underlying4 t4
  obtain ⟨n5, h5, -⟩ := DataW.trod_string Try.underlying9 t5
  simp only [List.cons.injEq, and_true] at h0 h1 h2 h3 h4 h5
  subst h0 h1 h2 h3 h4 h5
  exact ⟨⟨n0, n1, n2, n3, n4, n5⟩, rfl⟩
/-- A row of anything whose elements can be opened. -/
theorem open_row {α : Type} (k : Kd α) (z : α) (Q : α → Prop) {e : TypeId} (hz : Try.prog.cellsOf e = k.sz) (hel : ∀ (n : Nat) (cs : List Value) (x : DataW H × List MemPlace), cs.length = k.sz → DataW.trod enc Try.prog W base sp held n e cs = some x → ∃ s : α, Q s ∧ k.K W s cs)
    {fuel : Nat} {t : TypeId} (ht : Try.prog.underlying t = some (.slice e)) {a : Option Addr} {len cap : Nat} {x : DataW H × List MemPlace} (h : DataW.trod enc Try.prog W base sp held fuel t [.slice a len cap] = some x) :
    ∃ l : List α, l.length = len ∧ Kd.C k W a len l ∧ len ≤ cap ∧ len ≤ maxLen ∧ ∀ y ∈ l, Q y := by
  rcases open_slice ht h with ⟨hcs, _⟩ | ⟨a', len', cap', m, n, D, Pl, hcs, hb, hl, hm, hmm, _, hx⟩
  · simp only [List.cons.injEq, Value.slice.injEq, and_true] at hcs
    obtain ⟨rfl, rfl, rfl⟩ := hcs
    exact ⟨[], rfl, Kd.C_nil k W, by omega, by unfold maxLen; omega, by simp⟩
  · simp only [List.cons.injEq, Value.slice.injEq, and_true] at hcs
    obtain ⟨rfl, rfl, rfl⟩ := hcs
    have hm' : len ≤ m := by rw [hmm]; split <;> omega
    have hex : ∀ i, ∃ s : α, i < len → Q s ∧ ∃ c, c.length = k.sz ∧ k.K W s c ∧ ∀ j u, c[j]? = some u → W.cell? (a'.add (i * k.sz + j)) = some u := by
      intro i
      by_cases hi : i < len
      · obtain ⟨cs', h1, h2⟩ := hx i (by omega)
        rw [hz] at h1
        have h3 := World.cells?_some h1
        obtain ⟨s, hq, hk⟩ := hel n cs' _ h3.2.1 h2
        refine ⟨s, fun _ => ⟨hq, cs', h3.2.1, hk, fun j u hu => ?_⟩⟩
        have hj : j < k.sz := by
          have := (List.getElem?_eq_some_iff.mp hu).1
          rw [h3.2.1] at this; exact this
        have h4 := h3.2.2 j hj
        rw [hu, Addr.add_add] at h4
        exact h4
      · exact ⟨z, fun h => absurd h hi⟩
    obtain ⟨f, hf⟩ := Classical.axiomOfChoice hex
    refine ⟨(List.range len).map f, by simp, ⟨by simp, by unfold maxLen at hm; omega, fun _ => ⟨a', rfl, fun j p hp => ?_⟩⟩, hl, by omega, fun y hy => ?_⟩
    · obtain ⟨hj, rfl⟩ : j < len ∧ f j = p := by
        have h1 := List.getElem?_eq_some_iff.mp hp
        obtain ⟨h2, h3⟩ := h1
        simp at h2 h3
        exact ⟨h2, h3⟩
      exact (hf j hj).2
    · obtain ⟨i, hi, rfl⟩ := List.mem_map.mp hy
      exact (hf i (List.mem_range.mp hi)).1
/-- A row of keys. -/
theorem open_keys {fuel : Nat} {t : TypeId} (ht : Try.prog.underlying t = some (.slice 25)) {a : Option Addr} {len cap : Nat} {x : DataW H × List MemPlace} (h : DataW.trod enc Try.prog W base sp held fuel t [.slice a len cap] = some x) :
    ∃ l : List S25, l.length = len ∧ Kd.C k25 W a len l ∧ len ≤ cap ∧ len ≤ maxLen := by
  obtain ⟨l, h1, h2, h3, h4, -⟩ := open_row k25 z25 (fun _ => True) cells25 (fun n cs x _ h => by obtain ⟨s, rfl⟩ := open_key h; exact ⟨s, trivial, k25_mk W s⟩) ht h
  exact ⟨l, h1, h2, h3, h4⟩
end
end Go.Proofs.Ytgkaiagoogjibaa.Bk
