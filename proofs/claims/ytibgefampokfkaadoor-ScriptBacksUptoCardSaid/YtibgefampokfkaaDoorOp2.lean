/- A row of events, opened; the table off the list. -/
import Derived.Test.YtibgefampokfkaaDoorOp
import Derived.Test.YtibgefampokfkaaDoorPScx0
import Derived.Test.YtibgefampokfkaaDoorScJ
import Derived.LaidSub
namespace Go.Proofs.YtibgefampokfkaaDoor.Op
open Go.ChangeShapes Go.WideShapes Go.ChangeAt Go.RowKit Go.Deep Go.Proofs.YtibgefampokfkaaDoorW.PrintWords Go.Proofs.YtibgefampokfkaaDoor.PSc
open Go.ChangeMaps (open_string shut_string)
set_option linter.unusedVariables false
theorem cells37 : Tryd.prog.cellsOf 37 = 4 := by kernel_rfl
theorem cells34 : Tryd.prog.cellsOf 34 = 1 := by kernel_rfl
theorem cells35 : Tryd.prog.cellsOf 35 = 1 := by kernel_rfl
theorem cells3 : Tryd.prog.cellsOf 3 = 1 := by kernel_rfl
theorem cells9 : Tryd.prog.cellsOf 9 = 1 := by kernel_rfl
theorem sum_le {H : Type} {α : Type} (f : Nat → α) (D : Nat → DataW H) (g : α → Nat) (L : List Nat) (h : ∀ i ∈ L, g (f i) ≤ Rows.uptoBulk (D i)) : ((L.map f).map g).sum ≤ Rows.uptoBulkAll (L.map D) := by
  induction L with
  | nil => simp
  | cons x r ih =>
    have h1 := ih (fun i hi => h i (by simp [hi]))
    have h2 := h x (by simp)
    simp only [List.map_cons, List.sum_cons, Rows.uptoBulkAll]
    omega
section
variable {H : Type} {enc : TypeId × Value → H} {W : World} {base : Nat} {sp : Nat → Bool} {held : Bool}
/-- A row of anything whose elements can be opened; each element's datum is a part of the row's. -/
theorem open_row2 {α : Type} (k : Kd α) (z : α) (Q : α → DataW H → Prop) (g : α → Nat) (hg : ∀ s d, Q s d → g s ≤ Rows.uptoBulk d) {e : TypeId} (hz : Tryd.prog.cellsOf e = k.sz) (hel : ∀ (n : Nat) (cs : List Value) (x : DataW H × List MemPlace), cs.length = k.sz → DataW.trod enc Tryd.prog W base sp held n e cs = some x → ∃ s : α, Q s x.1 ∧ k.K W s cs)
    {fuel : Nat} {t : TypeId} (ht : Tryd.prog.underlying t = some (.slice e)) {a : Option Addr} {len cap : Nat} {x : DataW H × List MemPlace} (h : DataW.trod enc Tryd.prog W base sp held fuel t [.slice a len cap] = some x) :
    ∃ l : List α, l.length = len ∧ Kd.C k W a len l ∧ len ≤ cap ∧ len + 1 ≤ Rows.uptoBulk x.1 ∧ (∀ y ∈ l, ∃ d, Q y d ∧ Rows.uptoBulk d ≤ Rows.uptoBulk x.1) ∧ (l.map g).sum + 1 ≤ Rows.uptoBulk x.1 := by
  rcases open_slice ht h with ⟨hcs, hxx⟩ | ⟨a', len', cap', m, n, D, Pl, hcs, hb, hl, hm, hmm, hxx, hx⟩
  · simp only [List.cons.injEq, Value.slice.injEq, and_true] at hcs
    obtain ⟨rfl, rfl, rfl⟩ := hcs
    exact ⟨[], rfl, Kd.C_nil k W, by omega, by have := one_le x.1; omega, by simp, by have := one_le x.1; simp; omega⟩
  · simp only [List.cons.injEq, Value.slice.injEq, and_true] at hcs
    obtain ⟨rfl, rfl, rfl⟩ := hcs
    have hm' : len ≤ m := by rw [hmm]; split <;> omega
    have hbk : Rows.uptoBulkAll ((List.range len).map D) + 1 ≤ Rows.uptoBulk x.1 := by
      rw [hxx]; simp only [Rows.uptoBulk]; omega
    have hex : ∀ i, ∃ s : α, i < len → Q s (D i) ∧ ∃ c, c.length = k.sz ∧ k.K W s c ∧ ∀ j u, c[j]? = some u → W.cell? (a'.add (i * k.sz + j)) = some u := by
      intro i
      by_cases hi : i < len
      · obtain ⟨cs', h1, h2⟩ := hx i (by omega)
        rw [hz] at h1
        have h3 := World.cells?_some h1
        obtain ⟨s, hq, hk⟩ := hel n cs' _ h3.2.1 h2
        refine ⟨s, fun _ => ⟨hq, cs', h3.2.1, hk, fun j u hu => ?_⟩⟩
        have hj : j < k.sz := by
          have := (List.getElem?_eq_some_iff.mp hu).1
          rw [h3.2.1] at this; exact this
        have h4 := h3.2.2 j hj
        rw [hu, Addr.add_add] at h4
        exact h4
      · exact ⟨z, fun h => absurd h hi⟩
    obtain ⟨f, hf⟩ := Classical.axiomOfChoice hex
    refine ⟨(List.range len).map f, by simp, ⟨by simp, by unfold maxLen at hm; omega, fun _ => ⟨a', rfl, fun j p hp => ?_⟩⟩, hl, ?_, fun y hy => ?_, ?_⟩
    · obtain ⟨hj, rfl⟩ : j < len ∧ f j = p := by
        have h1 := List.getElem?_eq_some_iff.mp hp
        obtain ⟨h2, h3⟩ := h1
        simp at h2 h3
        exact ⟨h2, h3⟩
      exact (hf j hj).2
    · have := length_le ((List.range len).map D)
      simp at this
      omega
    · obtain ⟨i, hi, rfl⟩ := List.mem_map.mp hy
      refine ⟨D i, (hf i (List.mem_range.mp hi)).1, ?_⟩
      have := part_le (d := D i) (l := (List.range len).map D) (List.mem_map.mpr ⟨i, hi, rfl⟩)
      omega
    · have := sum_le f D g (List.range len) (fun i hi => hg _ _ (hf i (List.mem_range.mp hi)).1)
      omega

theorem struct4 {t : TypeId} {f0 f1 f2 f3 : Field} {fuel : Nat} {cs : List Value} {x : DataW H × List MemPlace} (ht : Tryd.prog.underlying t = some (.struct #[f0, f1, f2, f3])) (h : DataW.trod enc Tryd.prog W base sp held fuel t cs = some x) :
    ∃ y0 y1 y2 y3 n, cs.length = Tryd.prog.cellsOf t ∧ x.1 = .agg [y0.1, y1.1, y2.1, y3.1] ∧ DataW.trod enc Tryd.prog W base sp held n f0.type ((cs.drop f0.offset).take (Tryd.prog.cellsOf f0.type)) = some y0 ∧
      DataW.trod enc Tryd.prog W base sp held n f1.type ((cs.drop f1.offset).take (Tryd.prog.cellsOf f1.type)) = some y1 ∧ DataW.trod enc Tryd.prog W base sp held n f2.type ((cs.drop f2.offset).take (Tryd.prog.cellsOf f2.type)) = some y2 ∧
      DataW.trod enc Tryd.prog W base sp held n f3.type ((cs.drop f3.offset).take (Tryd.prog.cellsOf f3.type)) = some y3 := by
  obtain ⟨xs, n, _, rfl, hl, hlen, hf⟩ := DataW.trod_struct ht h
  match xs, hlen with
  | [y0, y1, y2, y3], _ => exact ⟨y0, y1, y2, y3, n, hl, rfl, by simpa using hf 0 f0 rfl, by simpa using hf 1 f1 rfl, by simpa using hf 2 f2 rfl, by simpa using hf 3 f3 rfl⟩
theorem four {α : Type} {cs : List α} (h : cs.length = 4) : ∃ a b c d, cs = [a, b, c, d] := by
  match cs, h with
  | [a, b, c, d], _ => exact ⟨a, b, c, d, rfl⟩
/-- An event's four cells. -/
theorem open_ev {fuel : Nat} {cs : List Value} {x : DataW H × List MemPlace} (h : DataW.trod enc Tryd.prog W base sp held fuel 37 cs = some x) :
    ∃ s : S37, cs = [.int .i64 s.f0, .string s.f1, .int .i64 s.f2, .int .i64 s.f3] ∧ s.f1.size + 4 ≤ Rows.uptoBulk x.1 := by
  obtain ⟨y0, y1, y2, y3, n, hl, hx, t0, t1, t2, t3⟩ := struct4 Tryd.underlying37 h
  rw [cells37] at hl
  obtain ⟨c0, c1, c2, c3, rfl⟩ := four hl
  simp only [cells34, cells35, cells3, cells9, List.drop, List.take] at t0 t1 t2 t3
  obtain ⟨n0, h0, e0⟩ := DataW.trod_int Tryd.underlying34 t0
  obtain ⟨n1, h1, e1⟩ := DataW.trod_string Tryd.underlying9 t1
  obtain ⟨n2, h2, e2⟩ := DataW.trod_int Tryd.underlying3 t2
  obtain ⟨n3, h3, e3⟩ := DataW.trod_int Tryd.underlying35 t3
  simp only [List.cons.injEq, and_true] at h0 h1 h2 h3
  subst h0 h1 h2 h3
  refine ⟨⟨n0, n1, n2, n3⟩, rfl, ?_⟩
  have b0 := one_le y0.1
  have b1 : n1.size + 1 ≤ Rows.uptoBulk y1.1 := by rw [e1.1]; exact Nat.le_of_eq (str_bulk n1)
  have b2 := one_le y2.1
  have b3 := one_le y3.1
  rw [hx]
  simp only [Rows.uptoBulk, Rows.uptoBulkAll]
  omega
/-- A row of events. -/
theorem open_evs {fuel : Nat} {a : Option Addr} {len cap : Nat} {x : DataW H × List MemPlace} (h : DataW.trod enc Tryd.prog W base sp held fuel 24 [.slice a len cap] = some x) :
    ∃ l : List S37, l.length = len ∧ Kd.C k37 W a len l ∧ len ≤ cap ∧ len + 1 ≤ Rows.uptoBulk x.1 ∧ (∀ y ∈ l, y.f1.size + 4 ≤ Rows.uptoBulk x.1) ∧ (l.map fun y => y.f1.size + 4).sum + 1 ≤ Rows.uptoBulk x.1 := by
  obtain ⟨l, h1, h2, h3, h4, h5, h6⟩ := open_row2 k37 z37 (fun s d => s.f1.size + 4 ≤ Rows.uptoBulk d) (fun s => s.f1.size + 4) (fun s d h => h) cells37 (fun n cs x _ h => by
    obtain ⟨s, rfl, hs⟩ := open_ev h
    exact ⟨s, hs, k37_mk W s⟩) Tryd.underlying24 h
  exact ⟨l, h1, h2, h3, h4, fun y hy => by obtain ⟨d, hd1, hd2⟩ := h5 y hy; omega, h6⟩
end
theorem tb_of {laid : List (String × DataW Unit)} {W : World} (h : laidMetH Tryd.prog laid W) (hf : laid.filter (fun x => x.1 == "internal/strconv.uint64pow10") = [("internal/strconv.uint64pow10", Lib.tabData .u64 Lib.pow10Tab)]) : Sc.Tb W := by
  have h1 := laidMetH.filter (fun x => x.1 == "internal/strconv.uint64pow10") h
  rw [hf] at h1
  exact Lib.tabIs_of_head (P := Tryd.prog) (g := 1) (t := 100) (e := 86) (n := 20) (rest := []) (by kernel_rfl) (by kernel_rfl) Tryd.underlying100 Tryd.underlying86 (by kernel_rfl) (by kernel_rfl) h1
end Go.Proofs.YtibgefampokfkaaDoor.Op
