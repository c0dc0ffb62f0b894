/- Rows of summaries opened. -/
import Derived.Test.YtoodidokjchplaaDoorOp
import Derived.Test.YtoodidokjchplaaDoorEN
namespace Go.Proofs.YtoodidokjchplaaDoor.Op
open Go.ChangeShapes Go.WideShapes Go.ChangeAt Go.RowKit Go.Deep
set_option linter.unusedVariables false
theorem cellsS : Tryd.prog.cellsOf 26 = 7 := by kernel_rfl
theorem cellsI : Tryd.prog.cellsOf 3 = 1 := by kernel_rfl
theorem cellsT : Tryd.prog.cellsOf 9 = 1 := by kernel_rfl
section
variable {H : Type} {enc : TypeId × Value → H} {W : World} {base : Nat} {sp : Nat → Bool} {held : Bool}
theorem struct7 {t : TypeId} {f0 f1 f2 f3 f4 f5 f6 : Field} {fuel : Nat} {cs : List Value} {x : DataW H × List MemPlace} (ht : Tryd.prog.underlying t = some (.struct #[f0, f1, f2, f3, f4, f5, f6])) (h : DataW.trod enc Tryd.prog W base sp held fuel t cs = some x) :
    ∃ y0 y1 y2 y3 y4 y5 y6 n, x.1 = .agg [y0.1, y1.1, y2.1, y3.1, y4.1, y5.1, y6.1] ∧ cs.length = Tryd.prog.cellsOf t ∧ DataW.trod enc Tryd.prog W base sp held n f0.type ((cs.drop f0.offset).take (Tryd.prog.cellsOf f0.type)) = some y0 ∧ DataW.trod enc Tryd.prog W base sp held n f1.type ((cs.drop f1.offset).take (Tryd.prog.cellsOf f1.type)) = some y1 ∧ DataW.trod enc Tryd.prog W base sp held n f2.type ((cs.drop f2.offset).take (Tryd.prog.cellsOf f2.type)) = some y2 ∧ DataW.trod enc Tryd.prog W base sp held n f3.type ((cs.drop f3.offset).take (Tryd.prog.cellsOf f3.type)) = some y3 ∧ DataW.trod enc Tryd.prog W base sp held n f4.type ((cs.drop f4.offset).take (Tryd.prog.cellsOf f4.type)) = some y4 ∧ DataW.trod enc Tryd.prog W base sp held n f5.type ((cs.drop f5.offset).take (Tryd.prog.cellsOf f5.type)) = some y5 ∧ DataW.trod enc Tryd.prog W base sp held n f6.type ((cs.drop f6.offset).take (Tryd.prog.cellsOf f6.type)) = some y6 := by
  obtain ⟨xs, n, _, rfl, hl, hlen, hf⟩ := DataW.trod_struct ht h
  match xs, hlen with
  | [y0, y1, y2, y3, y4, y5, y6], _ => exact ⟨y0, y1, y2, y3, y4, y5, y6, n, rfl, hl, by simpa using hf 0 f0 rfl, by simpa using hf 1 f1 rfl, by simpa using hf 2 f2 rfl, by simpa using hf 3 f3 rfl, by simpa using hf 4 f4 rfl, by simpa using hf 5 f5 rfl, by simpa using hf 6 f6 rfl⟩
theorem seven {α : Type} {cs : List α} (h : cs.length = 7) : ∃ a b c d e f g, cs = [a, b, c, d, e, f, g] := by
  match cs, h with
  | [a, b, c, d, e, f, g], _ => exact ⟨a, b, c, d, e, f, g, rfl⟩
/-- A summary's seven cells; its texts are parts of its datum. -/
theorem open_sum {fuel : Nat} {cs : List Value} {x : DataW H × List MemPlace} (h : DataW.trod enc Tryd.prog W base sp held fuel 26 cs = some x) :
    ∃ s : Un.Sr, cs = Un.cellsR s ∧ s.h.size + s.t.size ≤ Rows.uptoBulk x.1 := by
  obtain ⟨y0, y1, y2, y3, y4, y5, y6, n, hx, hl, t0, t1, t2, t3, t4, t5, t6⟩ := struct7 Tryd.underlying26 h
  rw [cellsS] at hl
  obtain ⟨c0, c1, c2, c3, c4, c5, c6, rfl⟩ := seven hl
  simp only [cellsI, cellsT, List.drop, List.take] at t0 t1 t2 t3 t4 t5 t6
  obtain ⟨n0, h0, -⟩ := DataW.trod_int Tryd.underlying3 t0
  obtain ⟨n1, h1, -⟩ := DataW.trod_int Tryd.underlying3 t1
  obtain ⟨n2, h2, -⟩ := DataW.trod_int Tryd.underlying3 t2
  obtain ⟨n3, h3, -⟩ := DataW.trod_int Tryd.underlying3 t3
  obtain ⟨n4, h4, -⟩ := DataW.trod_int Tryd.underlying3 t4
  obtain ⟨n5, h5, e5, -⟩ := DataW.trod_string Tryd.underlying9 t5
  obtain ⟨n6, h6, e6, -⟩ := DataW.trod_string Tryd.underlying9 t6
  simp only [List.cons.injEq, and_true] at h0 h1 h2 h3 h4 h5 h6
  subst h0 h1 h2 h3 h4 h5 h6
  refine ⟨⟨n0, n1, n2, n3, n4, n5, n6⟩, rfl, ?_⟩
  rw [hx, e5, e6]
  simp only [Rows.uptoBulk, Rows.uptoBulkAll]
  have z5 : n5.data.toList.length = n5.size := Wk.size_len n5
  have z6 : n6.data.toList.length = n6.size := Wk.size_len n6
  omega
theorem add_at (ad : Addr) (i k : Nat) (h : 0 < k) : ad.add (i + k) = ⟨(ad.add i).block, (ad.add i).off + k, none⟩ := by
  unfold Addr.add
  rw [if_neg (by omega)]
  split
  · rename_i h0; subst h0; simp
  · simp; omega
theorem open_sums {fuel : Nat} {a : Option Addr} {len cap : Nat} {x : DataW H × List MemPlace} (h : DataW.trod enc Tryd.prog W base sp held fuel 24 [.slice a len cap] = some x) :
    ∃ l : List Un.Sr, l.length = len ∧ Un.RdS W a l ∧ len + 1 ≤ Rows.uptoBulk x.1 ∧ ∀ p ∈ l, p.h.size ≤ Rows.uptoBulk x.1 ∧ p.t.size ≤ Rows.uptoBulk x.1 := by
  obtain ⟨l, h1, h2, -, -, h4, h5⟩ := open_row (H := H) (enc := enc) (W := W) 7 (fun (m : Un.Sr) cs => cs = Un.cellsR m) Un.Sr.z (fun m d => m.h.size + m.t.size ≤ Rows.uptoBulk d) (e := 26) cellsS (fun n cs x _ h => by
    obtain ⟨s, hs, hb⟩ := open_sum h
    exact ⟨s, hb, hs⟩) Tryd.underlying24 h
  refine ⟨l, h1, fun i hi => ?_, h4, fun p hp => ?_⟩
  · obtain ⟨ad, e, c, hc, rfl, hcell⟩ := h2 i hi
    refine ⟨ad, e, ?_⟩
    have k0 := hcell 0 _ rfl
    rw [Nat.add_zero] at k0
    have key : ∀ j u, 0 < j → (Un.cellsR l[i])[j]? = some u → W.cell? ⟨(ad.add (i * 7)).block, (ad.add (i * 7)).off + j, none⟩ = some u := fun j u hj hu => by
      rw [← add_at ad (i * 7) j hj]; exact hcell j u hu
    exact ⟨k0, key 1 _ (by omega) rfl, key 2 _ (by omega) rfl, key 3 _ (by omega) rfl, key 4 _ (by omega) rfl, key 5 _ (by omega) rfl, key 6 _ (by omega) rfl⟩
  · obtain ⟨d, hq, hd⟩ := h5 p hp
    omega
end
end Go.Proofs.YtoodidokjchplaaDoor.Op
