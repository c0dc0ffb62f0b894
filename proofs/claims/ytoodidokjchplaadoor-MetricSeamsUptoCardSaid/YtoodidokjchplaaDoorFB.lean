/- A drawn region with two allocations that may come at any time: each other operation is shown once. -/
import Derived.Test.YtoodidokjchplaaDoorFA
namespace Go.Proofs.YtoodidokjchplaaDoor.Un
open Go Go.RowKit Go.Shelf
set_option linter.unusedVariables false
section
variable {P : Program} {ops : Array Oper} {Q : Exit → Act → World → Prop} {I : Option Nat → Option Nat → World → Prop} {d1 i1 d2 i2 : Nat}
def ptrG (G : Nat) : Value := .pointer (some ⟨G, 0, none⟩)
/-- The allocation, said of every state; J: what it leads from, J': to. -/
structure AlTo (P : Program) (ops : Array Oper) (d ia : Nat) (J : World → Prop) (J' : Nat → World → Prop) : Prop where
  some_ : ∃ oa, ops[ia]? = some oa ∧ oa.dst = some d ∧ (∀ a : Act, Region.wanted oa (yielded ops a.tmps) = true) ∧
    ∃ ob, ∀ (a : Act) (w : World), (execOp a.eval oa).run P w = .ok (.value (ptrG w.heap.size)) (w.alloc ob) ∧ (J w → J' w.heap.size (w.alloc ob))
theorem AlTo.op {d ia : Nat} {J : World → Prop} {J' : Nat → World → Prop} (h : AlTo P ops d ia J J') {K : Act → World → Prop} {a : Act} {w : World} (hJ : J w)
    (hK : ∀ G w', J' G w' → K (a.put (some d) (ptrG G)) w') : wpOp P ops Q ia K a w := by
  obtain ⟨oa, ha1, ha2, ha3, ob, ha4⟩ := h.some_
  unfold wpOp
  simp only [ha1, ha3 a, if_true]
  refine Or.inl ?_
  unfold Oper.wp
  rw [(ha4 a w).1]
  show K _ _
  rw [ha2]
  exact hK _ _ ((ha4 a w).2 hJ)
/-- Ahead of both allocations, behind one, behind both. -/
structure Four (P : Program) (ops : Array Oper) (Q : Exit → Act → World → Prop) (I : Option Nat → Option Nat → World → Prop) (d1 i1 d2 i2 n : Nat) (L : Array Bool) (a : Act) : Prop where
  nn : ∀ w, I none none w → wpAnyH P .any ops Q (fun w => ∃ g h, I g h w) (n + 2) L a w
  sn : ∀ G w, I (some G) none w → wpAnyH P .any ops Q (fun w => ∃ g h, I g h w) (n + 1) (L.setIfInBounds i1 true) (a.put (some d1) (ptrG G)) w
  ns : ∀ G w, I none (some G) w → wpAnyH P .any ops Q (fun w => ∃ g h, I g h w) (n + 1) (L.setIfInBounds i2 true) (a.put (some d2) (ptrG G)) w
  ss : ∀ G H w, I (some G) (some H) w → wpAnyH P .any ops Q (fun w => ∃ g h, I g h w) n ((L.setIfInBounds i1 true).setIfInBounds i2 true) ((a.put (some d1) (ptrG G)).put (some d2) (ptrG H)) w
structure Als (P : Program) (ops : Array Oper) (I : Option Nat → Option Nat → World → Prop) (d1 i1 d2 i2 : Nat) : Prop where
  an : AlTo P ops d1 i1 (I none none) (fun G => I (some G) none)
  aq : ∀ H, AlTo P ops d1 i1 (I none (some H)) (fun G => I (some G) (some H))
  bn : AlTo P ops d2 i2 (I none none) (fun G => I none (some G))
  bs : ∀ G, AlTo P ops d2 i2 (I (some G) none) (fun H => I (some G) (some H))
  ne : i1 ≠ i2
  nd : d1 ≠ d2
theorem Four.take {n i N : Nat} {oi : Oper} {v : Value} {L : Array Bool} {a : Act} (L' : Array Bool) (hi : ops[i]? = some oi) (hN : oi.dst = some N)
    (hl : L.setIfInBounds i true = L') (hne : i1 ≠ i ∧ i2 ≠ i) (hd : (d1 != N && d2 != N && !(oi.looksAt ops).contains d1 && !(oi.looksAt ops).contains d2) = true)
    (hs : (Region.noSelect ops && Region.free .any ops L i && Region.free .any ops (L.setIfInBounds i1 true) i && Region.free .any ops (L.setIfInBounds i2 true) i && Region.free .any ops ((L.setIfInBounds i1 true).setIfInBounds i2 true) i
      && (Region.ready .any ops L).contains i && (Region.ready .any ops (L.setIfInBounds i1 true)).contains i && (Region.ready .any ops (L.setIfInBounds i2 true)).contains i && (Region.ready .any ops ((L.setIfInBounds i1 true).setIfInBounds i2 true)).contains i) = true)
    (hQ : ∀ c a w, Q (.panic c) (a.put (some N) v) w → Q (.panic c) a w)
    (hy : YieldsIf P ops (fun w => ∃ g h, I g h w) oi v a) (h : Four P ops Q I d1 i1 d2 i2 n L' (a.put (some N) v)) : Four P ops Q I d1 i1 d2 i2 (n + 1) L a := by
  simp only [Bool.and_eq_true] at hs
  obtain ⟨⟨⟨⟨⟨⟨⟨⟨h1, f0⟩, f1⟩, f2⟩, f3⟩, r0⟩, r1⟩, r2⟩, r3⟩ := hs
  simp only [Bool.and_eq_true, bne_iff_ne, ne_eq, Bool.not_eq_true', List.contains_eq_mem, decide_eq_false_iff_not] at hd
  obtain ⟨⟨⟨e1, e2⟩, e3⟩, e4⟩ := hd
  have hs0 := fun cs b => Region.noSelect_spec h1 i oi cs b hi
  have p1 : ∀ e, some d1 = some e → e ∉ oi.looksAt ops := fun e he => by cases he; exact e3
  have p2 : ∀ e, some d2 = some e → e ∉ oi.looksAt ops := fun e he => by cases he; exact e4
  have c1 : ∀ (b : Act) u, (b.put (some d1) u).put oi.dst v = (b.put oi.dst v).put (some d1) u := fun b u => Act.put_comm b (x := some d1) (y := oi.dst) _ _ (fun e he => by cases he; rw [hN]; intro h; cases h; exact e1 rfl)
  have c2 : ∀ (b : Act) u, (b.put (some d2) u).put oi.dst v = (b.put oi.dst v).put (some d2) u := fun b u => Act.put_comm b (x := some d2) (y := oi.dst) _ _ (fun e he => by cases he; rw [hN]; intro h; cases h; exact e2 rfl)
  have y1 : ∀ u, YieldsIf P ops (fun w => ∃ g h, I g h w) oi v (a.put (some d1) u) := fun u => hy.of_same (execOp_put oi hs0 a _ _ p1) (wanted_put oi a _ _ p1)
  have y2 : ∀ u, YieldsIf P ops (fun w => ∃ g h, I g h w) oi v (a.put (some d2) u) := fun u => hy.of_same (execOp_put oi hs0 a _ _ p2) (wanted_put oi a _ _ p2)
  have y3 : ∀ u u', YieldsIf P ops (fun w => ∃ g h, I g h w) oi v ((a.put (some d1) u).put (some d2) u') := fun u u' => (y1 u).of_same (execOp_put oi hs0 _ _ _ p2) (wanted_put oi _ _ _ p2)
  rw [← hl, ← hN] at h
  refine ⟨fun w hw => wpAnyH_take hi h1 f0 r0 (by rw [hN]; exact hQ) hy ⟨_, _, hw⟩ (h.nn w hw), fun G w hw => ?_, fun G w hw => ?_, fun G H w hw => ?_⟩
  · refine wpAnyH_take hi h1 f1 r1 (by rw [hN]; exact hQ) (y1 _) ⟨_, _, hw⟩ ?_
    have h6 := h.sn G w hw
    rw [Array.setIfInBounds_comm _ _ (Ne.symm hne.1)] at h6
    rw [c1]
    exact h6
  · refine wpAnyH_take hi h1 f2 r2 (by rw [hN]; exact hQ) (y2 _) ⟨_, _, hw⟩ ?_
    have h6 := h.ns G w hw
    rw [Array.setIfInBounds_comm _ _ (Ne.symm hne.2)] at h6
    rw [c2]
    exact h6
  · refine wpAnyH_take hi h1 f3 r3 (by rw [hN]; exact hQ) (y3 _ _) ⟨_, _, hw⟩ ?_
    have h6 := h.ss G H w hw
    rw [Array.setIfInBounds_comm _ _ (Ne.symm hne.1), Array.setIfInBounds_comm _ _ (Ne.symm hne.2)] at h6
    rw [c2, c1]
    exact h6
theorem Four.call {n i N : Nat} {oi : Oper} {v : Value} {L : Array Bool} {a : Act} {f : FuncId} {args : Array Value} (ho : Als P ops I d1 i1 d2 i2) (L' : Array Bool) (hi : ops[i]? = some oi) (hN : oi.dst = some N)
    (hl : L.setIfInBounds i true = L') (hne : i1 ≠ i ∧ i2 ≠ i) (hd : (d1 != N && d2 != N && !(oi.looksAt ops).contains d1 && !(oi.looksAt ops).contains d2) = true)
    (hs : (Region.noSelect ops && (Region.ready .any ops L).all (fun j => j == i || j == i1 || j == i2) && (Region.ready .any ops (L.setIfInBounds i1 true)).all (fun j => j == i || j == i2) && (Region.ready .any ops (L.setIfInBounds i2 true)).all (fun j => j == i || j == i1) && (Region.ready .any ops ((L.setIfInBounds i1 true).setIfInBounds i2 true)).all (fun j => j == i)
      && (Region.ready .any ops L).contains i && (Region.ready .any ops (L.setIfInBounds i1 true)).contains i && (Region.ready .any ops (L.setIfInBounds i2 true)).contains i && (Region.ready .any ops ((L.setIfInBounds i1 true).setIfInBounds i2 true)).contains i) = true)
    (hw : Region.wanted oi (yielded ops a.tmps) = true) (hrun : ∀ w, (execOp a.eval oi).run P w = .ok (.enter f args) w)
    (hc : ∀ g h w, I g h w → Calls P f args w (fun e w' => e = .returned v ∧ I g h w'))
    (h : Four P ops Q I d1 i1 d2 i2 n L' (a.put (some N) v)) : Four P ops Q I d1 i1 d2 i2 (n + 1) L a := by
  simp only [Bool.and_eq_true] at hs
  obtain ⟨⟨⟨⟨⟨⟨⟨⟨h1, f0⟩, f1⟩, f2⟩, f3⟩, r0⟩, r1⟩, r2⟩, r3⟩ := hs
  simp only [List.all_eq_true, Bool.or_eq_true, beq_iff_eq] at f0 f1 f2 f3
  simp only [List.contains_eq_mem, decide_eq_true_eq] at r0 r1 r2 r3
  simp only [Bool.and_eq_true, bne_iff_ne, ne_eq, Bool.not_eq_true', List.contains_eq_mem, decide_eq_false_iff_not] at hd
  obtain ⟨⟨⟨e1, e2⟩, e3⟩, e4⟩ := hd
  have hs0 := fun cs b => Region.noSelect_spec h1 i oi cs b hi
  have p1 : ∀ e, some d1 = some e → e ∉ oi.looksAt ops := fun e he => by cases he; exact e3
  have p2 : ∀ e, some d2 = some e → e ∉ oi.looksAt ops := fun e he => by cases he; exact e4
  have c1 : ∀ (b : Act) u, (b.put (some d1) u).put oi.dst v = (b.put oi.dst v).put (some d1) u := fun b u => Act.put_comm b (x := some d1) (y := oi.dst) _ _ (fun e he => by cases he; rw [hN]; intro h; cases h; exact e1 rfl)
  have c2 : ∀ (b : Act) u, (b.put (some d2) u).put oi.dst v = (b.put oi.dst v).put (some d2) u := fun b u => Act.put_comm b (x := some d2) (y := oi.dst) _ _ (fun e he => by cases he; rw [hN]; intro h; cases h; exact e2 rfl)
  have cc : ∀ (b : Act) u u', (b.put (some d2) u').put (some d1) u = (b.put (some d1) u).put (some d2) u' := fun b u u' => Act.put_comm b (x := some d2) (y := some d1) _ _ (fun e he => by cases he; intro h; cases h; exact ho.nd rfl)
  have ll : ∀ (M : Array Bool), (M.setIfInBounds i2 true).setIfInBounds i1 true = (M.setIfInBounds i1 true).setIfInBounds i2 true := fun M => Array.setIfInBounds_comm _ _ (Ne.symm ho.ne)
  have x1 : ∀ (b : Act) u, execOp (b.put (some d1) u).eval oi = execOp b.eval oi := fun b u => execOp_put oi hs0 b _ _ p1
  have x2 : ∀ (b : Act) u, execOp (b.put (some d2) u).eval oi = execOp b.eval oi := fun b u => execOp_put oi hs0 b _ _ p2
  have w1 : ∀ (b : Act) u, Region.wanted oi (yielded ops (b.put (some d1) u).tmps) = Region.wanted oi (yielded ops b.tmps) := fun b u => wanted_put oi b _ _ p1
  have w2 : ∀ (b : Act) u, Region.wanted oi (yielded ops (b.put (some d2) u).tmps) = Region.wanted oi (yielded ops b.tmps) := fun b u => wanted_put oi b _ _ p2
  rw [← hl, ← hN] at h
  have css : ∀ G H w, I (some G) (some H) w → wpAnyH P .any ops Q (fun w => ∃ g h, I g h w) (n + 1) ((L.setIfInBounds i1 true).setIfInBounds i2 true) ((a.put (some d1) (ptrG G)).put (some d2) (ptrG H)) w := by
    intro G H w hI
    refine wpAnyH_all rfl (List.ne_nil_of_mem r3) (fun j hj => ?_)
    rw [f3 j hj]
    refine wpOp_call (n := 0) (v := v) (f := f) (args := args) hi (by rw [w2, w1]; exact hw) (by rw [x2, x1]; exact hrun w) ((hc _ _ _ hI).mono ?_)
    rintro e w' ⟨rfl, hI'⟩
    have h6 := h.ss G H w' hI'
    rw [Array.setIfInBounds_comm _ _ (Ne.symm hne.1), Array.setIfInBounds_comm _ _ (Ne.symm hne.2)] at h6
    rw [c2, c1]
    exact ⟨rfl, ⟨_, _, hI'⟩, h6⟩
  have csn : ∀ G w, I (some G) none w → wpAnyH P .any ops Q (fun w => ∃ g h, I g h w) (n + 1 + 1) (L.setIfInBounds i1 true) (a.put (some d1) (ptrG G)) w := by
    intro G w hI
    refine wpAnyH_all rfl (List.ne_nil_of_mem r1) (fun j hj => ?_)
    rcases f1 j hj with rfl | rfl
    · refine wpOp_call (n := 0) (v := v) (f := f) (args := args) hi (by rw [w1]; exact hw) (by rw [x1]; exact hrun w) ((hc _ _ _ hI).mono ?_)
      rintro e w' ⟨rfl, hI'⟩
      have h6 := h.sn G w' hI'
      rw [Array.setIfInBounds_comm _ _ (Ne.symm hne.1)] at h6
      rw [c1]
      exact ⟨rfl, ⟨_, _, hI'⟩, h6⟩
    · exact (ho.bs G).op hI (fun H w' hI' => ⟨⟨_, _, hI'⟩, css G H w' hI'⟩)
  have cns : ∀ G w, I none (some G) w → wpAnyH P .any ops Q (fun w => ∃ g h, I g h w) (n + 1 + 1) (L.setIfInBounds i2 true) (a.put (some d2) (ptrG G)) w := by
    intro G w hI
    refine wpAnyH_all rfl (List.ne_nil_of_mem r2) (fun j hj => ?_)
    rcases f2 j hj with rfl | rfl
    · refine wpOp_call (n := 0) (v := v) (f := f) (args := args) hi (by rw [w2]; exact hw) (by rw [x2]; exact hrun w) ((hc _ _ _ hI).mono ?_)
      rintro e w' ⟨rfl, hI'⟩
      have h6 := h.ns G w' hI'
      rw [Array.setIfInBounds_comm _ _ (Ne.symm hne.2)] at h6
      rw [c2]
      exact ⟨rfl, ⟨_, _, hI'⟩, h6⟩
    · refine (ho.aq G).op hI (fun H w' hI' => ⟨⟨_, _, hI'⟩, ?_⟩)
      rw [ll, cc]
      exact css H G w' hI'
  refine ⟨fun w hI => ?_, csn, cns, css⟩
  refine wpAnyH_all rfl (List.ne_nil_of_mem r0) (fun j hj => ?_)
  rcases f0 j hj with (rfl | rfl) | rfl
  · refine wpOp_call (n := 0) (v := v) (f := f) (args := args) hi hw (hrun w) ((hc _ _ _ hI).mono ?_)
    rintro e w' ⟨rfl, hI'⟩
    exact ⟨rfl, ⟨_, _, hI'⟩, h.nn w' hI'⟩
  · exact ho.an.op hI (fun G w' hI' => ⟨⟨_, _, hI'⟩, csn G w' hI'⟩)
  · exact ho.bn.op hI (fun G w' hI' => ⟨⟨_, _, hI'⟩, cns G w' hI'⟩)
theorem Four.last {n : Nat} {L : Array Bool} {a : Act} (ho : Als P ops I d1 i1 d2 i2) (L' : Array Bool) (hl : (L.setIfInBounds i1 true).setIfInBounds i2 true = L')
    (hs : ((Region.ready .any ops L).all (fun j => j == i1 || j == i2) && (Region.ready .any ops (L.setIfInBounds i1 true)).all (fun j => j == i2) && (Region.ready .any ops (L.setIfInBounds i2 true)).all (fun j => j == i1)
      && (Region.ready .any ops L).contains i1 && (Region.ready .any ops (L.setIfInBounds i1 true)).contains i2 && (Region.ready .any ops (L.setIfInBounds i2 true)).contains i1) = true)
    (h : ∀ G H w, I (some G) (some H) w → wpAnyH P .any ops Q (fun w => ∃ g h, I g h w) n L' ((a.put (some d1) (ptrG G)).put (some d2) (ptrG H)) w) : Four P ops Q I d1 i1 d2 i2 n L a := by
  simp only [Bool.and_eq_true] at hs
  obtain ⟨⟨⟨⟨⟨f0, f1⟩, f2⟩, r0⟩, r1⟩, r2⟩ := hs
  simp only [List.all_eq_true, Bool.or_eq_true, beq_iff_eq] at f0 f1 f2
  simp only [List.contains_eq_mem, decide_eq_true_eq] at r0 r1 r2
  rw [← hl] at h
  have cc : ∀ (b : Act) u u', (b.put (some d2) u').put (some d1) u = (b.put (some d1) u).put (some d2) u' := fun b u u' => Act.put_comm b (x := some d2) (y := some d1) _ _ (fun e he => by cases he; intro h; cases h; exact ho.nd rfl)
  have ll : ∀ (M : Array Bool), (M.setIfInBounds i2 true).setIfInBounds i1 true = (M.setIfInBounds i1 true).setIfInBounds i2 true := fun M => Array.setIfInBounds_comm _ _ (Ne.symm ho.ne)
  have csn : ∀ G w, I (some G) none w → wpAnyH P .any ops Q (fun w => ∃ g h, I g h w) (n + 1) (L.setIfInBounds i1 true) (a.put (some d1) (ptrG G)) w := by
    intro G w hI
    refine wpAnyH_all rfl (List.ne_nil_of_mem r1) (fun j hj => ?_)
    rw [f1 j hj]
    exact (ho.bs G).op hI (fun H w' hI' => ⟨⟨_, _, hI'⟩, h G H w' hI'⟩)
  have cns : ∀ G w, I none (some G) w → wpAnyH P .any ops Q (fun w => ∃ g h, I g h w) (n + 1) (L.setIfInBounds i2 true) (a.put (some d2) (ptrG G)) w := by
    intro G w hI
    refine wpAnyH_all rfl (List.ne_nil_of_mem r2) (fun j hj => ?_)
    rw [f2 j hj]
    refine (ho.aq G).op hI (fun H w' hI' => ⟨⟨_, _, hI'⟩, ?_⟩)
    rw [ll, cc]
    exact h H G w' hI'
  refine ⟨fun w hI => wpAnyH_all rfl (List.ne_nil_of_mem r0) (fun j hj => ?_), csn, cns, h⟩
  rcases f0 j hj with rfl | rfl
  · exact ho.an.op hI (fun G w' hI' => ⟨⟨_, _, hI'⟩, csn G w' hI'⟩)
  · exact ho.bn.op hI (fun G w' hI' => ⟨⟨_, _, hI'⟩, cns G w' hI'⟩)
theorem Four.start {id n : Nat} {a : Act} {w : World} (ls : Array Bool) (hm : P.follows .mixedOrders = true) (hn : ops.size = n + 2) (hl : Array.replicate ops.size false = ls) (hI : I none none w.drew) (ho : Als P ops I d1 i1 d2 i2) (h : Als P ops I d1 i1 d2 i2 → Four P ops Q I d1 i1 d2 i2 n ls a) :
    (Code.region id ops true).wp P Q a w := by
  refine wp_region_held (S := fun w => ∃ g h, I g h w) hm ?_
  rw [hl, hn]
  exact (h ho).nn _ hI
end
end Go.Proofs.YtoodidokjchplaaDoor.Un
