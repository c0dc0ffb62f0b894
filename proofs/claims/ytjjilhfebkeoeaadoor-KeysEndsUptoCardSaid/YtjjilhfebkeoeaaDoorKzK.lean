/- A key that a caller hands over by value, opened. -/
import Derived.Test.YtjjilhfebkeoeaaDoorOp
import Derived.Test.YtjjilhfebkeoeaaDoorKyM
namespace Go.Proofs.YtjjilhfebkeoeaaDoor.Op
open Go.ChangeShapes Go.WideShapes Go.ChangeAt Go.RowKit Go.Deep Go.Proofs.YtjjilhfebkeoeaaDoor.PKy Go.Proofs.YtjjilhfebkeoeaaDoorW.PrintWords
open Go.ChangeMaps (open_string shut_string)
set_option linter.unusedVariables false
theorem cells50 : Tryd.prog.cellsOf 50 = 6 := by kernel_rfl
theorem cells48 : Tryd.prog.cellsOf 48 = 1 := by kernel_rfl
theorem cells21 : Tryd.prog.cellsOf 21 = 1 := by kernel_rfl
theorem cells4 : Tryd.prog.cellsOf 4 = 1 := by kernel_rfl
theorem cells9 : Tryd.prog.cellsOf 9 = 1 := by kernel_rfl
section
variable {H : Type} {enc : TypeId × Value → H} {W : World} {base : Nat} {sp : Nat → Bool} {held : Bool}
theorem struct6 {t : TypeId} {f0 f1 f2 f3 f4 f5 : Field} {fuel : Nat} {cs : List Value} {x : DataW H × List MemPlace} (ht : Tryd.prog.underlying t = some (.struct #[f0, f1, f2, f3, f4, f5])) (h : DataW.trod enc Tryd.prog W base sp held fuel t cs = some x) :
    ∃ y0 y1 y2 y3 y4 y5 n, cs.length = Tryd.prog.cellsOf t ∧ x.1 = .agg [y0.1, y1.1, y2.1, y3.1, y4.1, y5.1] ∧ DataW.trod enc Tryd.prog W base sp held n f0.type ((cs.drop f0.offset).take (Tryd.prog.cellsOf f0.type)) = some y0 ∧
      DataW.trod enc Tryd.prog W base sp held n f1.type ((cs.drop f1.offset).take (Tryd.prog.cellsOf f1.type)) = some y1 ∧ DataW.trod enc Tryd.prog W base sp held n f2.type ((cs.drop f2.offset).take (Tryd.prog.cellsOf f2.type)) = some y2 ∧
      DataW.trod enc Tryd.prog W base sp held n f3.type ((cs.drop f3.offset).take (Tryd.prog.cellsOf f3.type)) = some y3 ∧ DataW.trod enc Tryd.prog W base sp held n f4.type ((cs.drop f4.offset).take (Tryd.prog.cellsOf f4.type)) = some y4 ∧
      DataW.trod enc Tryd.prog W base sp held n f5.type ((cs.drop f5.offset).take (Tryd.prog.cellsOf f5.type)) = some y5 := by
  obtain ⟨xs, n, _, rfl, hl, hlen, hf⟩ := DataW.trod_struct ht h
  match xs, hlen with
  | [y0, y1, y2, y3, y4, y5], _ => exact ⟨y0, y1, y2, y3, y4, y5, n, hl, rfl, by simpa using hf 0 f0 rfl, by simpa using hf 1 f1 rfl, by simpa using hf 2 f2 rfl, by simpa using hf 3 f3 rfl, by simpa using hf 4 f4 rfl, by simpa using hf 5 f5 rfl⟩
theorem six {α : Type} {cs : List α} (h : cs.length = 6) : ∃ a b c d e f, cs = [a, b, c, d, e, f] := by
  match cs, h with
  | [a, b, c, d, e, f], _ => exact ⟨a, b, c, d, e, f, rfl⟩
theorem wf_i32 {n : Int} (h : (Lit.int .i32 n).wf = true) : -2147483648 ≤ n ∧ n ≤ 2147483647 := by
  simp only [Lit.wf, Bool.and_eq_true, decide_eq_true_eq] at h
  have h1 : IntKind.i32.min = -2147483648 := by decide
  have h2 : IntKind.i32.max = 2147483647 := by decide
  omega
/-- A key's six cells; its character is an int32, its text no longer than its weight. -/
theorem open_key {fuel : Nat} {cs : List Value} {x : DataW H × List MemPlace} (h : DataW.trod enc Tryd.prog W base sp held fuel 50 cs = some x) :
    ∃ s : S50, cs = [.int .i64 s.f0, .int .i32 s.f1, .bool s.f2, .bool s.f3, .bool s.f4, .string s.f5] ∧ -2147483648 ≤ s.f1 ∧ s.f1 ≤ 2147483647 ∧ s.f5.size + 6 ≤ Rows.uptoBulk x.1 := by
  obtain ⟨y0, y1, y2, y3, y4, y5, n, hl, hx, t0, t1, t2, t3, t4, t5⟩ := struct6 Tryd.underlying50 h
  rw [cells50] at hl
  obtain ⟨c0, c1, c2, c3, c4, c5, rfl⟩ := six hl
  simp only [cells48, cells21, cells4, cells9, List.drop, List.take] at t0 t1 t2 t3 t4 t5
  obtain ⟨n0, h0, -⟩ := DataW.trod_int Tryd.underlying48 t0
  obtain ⟨n1, h1, -, w1⟩ := DataW.trod_int Tryd.underlying21 t1
  obtain ⟨n2, h2, -⟩ := DataW.trod_bool Tryd.underlying4 t2
  obtain ⟨n3, h3, -⟩ := DataW.trod_bool Tryd.underlying4 t3
  obtain ⟨n4, h4, -⟩ := DataW.trod_bool Tryd.underlying4 t4
  obtain ⟨n5, h5, e5⟩ := DataW.trod_string Tryd.underlying9 t5
  simp only [List.cons.injEq, and_true] at h0 h1 h2 h3 h4 h5
  subst h0 h1 h2 h3 h4 h5
  have hw := wf_i32 w1
  refine ⟨⟨n0, n1, n2, n3, n4, n5⟩, rfl, hw.1, hw.2, ?_⟩
  have b0 := one_le y0.1
  have b1 := one_le y1.1
  have b2 := one_le y2.1
  have b3 := one_le y3.1
  have b4 := one_le y4.1
  have b5 : n5.size + 1 ≤ Rows.uptoBulk y5.1 := by rw [e5.1]; exact Nat.le_of_eq (str_bulk n5)
  rw [hx]
  simp only [Rows.uptoBulk, Rows.uptoBulkAll]
  omega
set_option maxRecDepth 100000 in
/-- A key handed over by value. -/
theorem open_keyVal {r : Reach} {b0 : Nat} {v : Value} {d : DataW H} {p : List MemPlace} (hv : Value.okWide Tryd.prog W r b0 50 v) (h : DataW.Trod enc Tryd.prog W base sp held 50 v d p) :
    ∃ s : S50, v = .agg #[.int .i64 s.f0, .int .i32 s.f1, .bool s.f2, .bool s.f3, .bool s.f4, .string s.f5] ∧ -2147483648 ≤ s.f1 ∧ s.f1 ≤ 2147483647 ∧ s.f5.size + 6 ≤ Rows.uptoBulk d := by
  obtain ⟨cs, rfl, hsz⟩ := okWide_struct Tryd.underlying50 hv
  obtain ⟨fuel, hf⟩ := h
  obtain ⟨s, hs, h1, h2, h3⟩ := open_key hf
  refine ⟨s, ?_, h1, h2, h3⟩
  have : cs.toList = [.int .i64 s.f0, .int .i32 s.f1, .bool s.f2, .bool s.f3, .bool s.f4, .string s.f5] := by simpa [Value.cells] using hs
  rw [← this]
/-- A key of cells as a plain one. -/
def keyOf (s : S50) : Ky.Key := ⟨s.f0, s.f1, s.f2, s.f3, s.f4, s.f5.data.toList⟩
theorem keyV_of (s : S50) : Ky.keyV (keyOf s) = .agg #[.int .i64 s.f0, .int .i32 s.f1, .bool s.f2, .bool s.f3, .bool s.f4, .string s.f5] := by
  show Value.agg #[.int .i64 s.f0, .int .i32 s.f1, .bool s.f2, .bool s.f3, .bool s.f4, .string ⟨s.f5.data.toList.toArray⟩] = _
  rw [Wk.mk_data]
end
end Go.Proofs.YtjjilhfebkeoeaaDoor.Op
