/- A drawn region with one allocation that may come at any time: each other operation is shown once. -/
import Derived.Test.YtoodidokjchplaaDoorCY
import Derived.Deep.RegionHeld3
namespace Go.Proofs.YtoodidokjchplaaDoor.Un
open Go Go.RowKit Go.Shelf
set_option linter.unusedVariables false
section
variable {P : Program} {ops : Array Oper} {Q : Exit → Act → World → Prop} {I : Option Nat → World → Prop} {d ia : Nat}
/-- The allocation, said of every state. -/
structure AlOp (P : Program) (ops : Array Oper) (I : Option Nat → World → Prop) (d ia : Nat) : Prop where
  some_ : ∃ oa, ops[ia]? = some oa ∧ oa.dst = some d ∧ (∀ a : Act, Region.wanted oa (yielded ops a.tmps) = true) ∧
    ∃ ob, ∀ (a : Act) (w : World), (execOp a.eval oa).run P w = .ok (.value (.pointer (some ⟨w.heap.size, 0, none⟩))) (w.alloc ob) ∧ (I none w → I (some w.heap.size) (w.alloc ob))
/-- Both ahead of the allocation and behind it. -/
def Two (P : Program) (ops : Array Oper) (Q : Exit → Act → World → Prop) (I : Option Nat → World → Prop) (d ia : Nat) (n : Nat) (listed : Array Bool) (a : Act) : Prop :=
  (∀ w, I none w → wpAnyH P .any ops Q (fun w => ∃ g, I g w) (n + 1) listed a w) ∧
  (∀ G w, I (some G) w → wpAnyH P .any ops Q (fun w => ∃ g, I g w) n (listed.setIfInBounds ia true) (a.put (some d) (.pointer (some ⟨G, 0, none⟩))) w)
theorem Two.take {n i N : Nat} {oi : Oper} {v : Value} {listed : Array Bool} {a : Act} (listed' : Array Bool) (hi : ops[i]? = some oi) (hN : oi.dst = some N)
    (hl : listed.setIfInBounds i true = listed') (hne : ia ≠ i) (hd : (d != N && !(oi.looksAt ops).contains d) = true)
    (hs : (Region.noSelect ops && Region.free .any ops listed i && Region.free .any ops (listed.setIfInBounds ia true) i && (Region.ready .any ops listed).contains i && (Region.ready .any ops (listed.setIfInBounds ia true)).contains i) = true)
    (hQ : ∀ c a w, Q (.panic c) (a.put (some N) v) w → Q (.panic c) a w)
    (hy : YieldsIf P ops (fun w => ∃ g, I g w) oi v a) (h : Two P ops Q I d ia n listed' (a.put (some N) v)) : Two P ops Q I d ia (n + 1) listed a := by
  simp only [Bool.and_eq_true] at hs
  obtain ⟨⟨⟨⟨h1, h2⟩, h3⟩, h4⟩, h5⟩ := hs
  simp only [Bool.and_eq_true, bne_iff_ne, ne_eq, Bool.not_eq_true', List.contains_eq_mem, decide_eq_false_iff_not] at hd
  obtain ⟨hd1, hd2⟩ := hd
  have hput : ∀ e, some d = some e → e ∉ oi.looksAt ops := fun e he => by cases he; exact hd2
  rw [← hl, ← hN] at h
  refine ⟨fun w hw => wpAnyH_take hi h1 h2 h4 (by rw [hN]; exact hQ) hy ⟨none, hw⟩ (h.1 w hw), fun G w hw => ?_⟩
  refine wpAnyH_take hi h1 h3 h5 (by rw [hN]; exact hQ) (hy.of_same (execOp_put oi (Region.noSelect_spec h1 i oi · · hi) a _ _ hput) (wanted_put oi a _ _ hput)) ⟨some G, hw⟩ ?_
  have h6 := h.2 G w hw
  rw [Array.setIfInBounds_comm _ _ (Ne.symm hne)] at h6
  rw [Act.put_comm a (x := some d) (y := oi.dst) _ _ (fun e he => by cases he; rw [hN]; intro h; cases h; exact hd1 rfl)]
  exact h6
theorem wpOp_call {n i : Nat} {oi : Oper} {v : Value} {a : Act} {w : World} {f : FuncId} {args : Array Value} {K : Act → World → Prop} (hi : ops[i]? = some oi)
    (hw : Region.wanted oi (yielded ops a.tmps) = true) (hrun : (execOp a.eval oi).run P w = .ok (.enter f args) w)
    (hc : Calls P f args w (fun e w' => e = .returned v ∧ K (a.put oi.dst v) w')) : wpOp P ops Q i K a w := by
  unfold wpOp
  simp only [hi, hw, if_true]
  refine Or.inl ?_
  unfold Oper.wp
  rw [hrun]
  refine Calls.mono hc ?_
  rintro e w' ⟨rfl, h⟩
  exact h
theorem Two.call {n i N : Nat} {oi : Oper} {v : Value} {listed : Array Bool} {a : Act} {f : FuncId} {args : Array Value} (ho : AlOp P ops I d ia) (listed' : Array Bool) (hi : ops[i]? = some oi) (hN : oi.dst = some N)
    (hl : listed.setIfInBounds i true = listed') (hne : ia ≠ i) (hd : (d != N && !(oi.looksAt ops).contains d) = true)
    (hs : (Region.noSelect ops && (Region.ready .any ops listed).all (fun j => j == i || j == ia) && (Region.ready .any ops (listed.setIfInBounds ia true)).all (fun j => j == i)
      && (Region.ready .any ops listed).contains i && (Region.ready .any ops (listed.setIfInBounds ia true)).contains i) = true)
    (hw : Region.wanted oi (yielded ops a.tmps) = true) (hrun : ∀ w, (execOp a.eval oi).run P w = .ok (.enter f args) w)
    (hc : ∀ g w, I g w → Calls P f args w (fun e w' => e = .returned v ∧ I g w'))
    (h : Two P ops Q I d ia n listed' (a.put (some N) v)) : Two P ops Q I d ia (n + 1) listed a := by
  simp only [Bool.and_eq_true] at hs
  obtain ⟨⟨⟨⟨h1, h2⟩, h3⟩, h4⟩, h5⟩ := hs
  simp only [List.all_eq_true, Bool.or_eq_true, beq_iff_eq] at h2 h3
  simp only [List.contains_eq_mem, decide_eq_true_eq] at h4 h5
  simp only [Bool.and_eq_true, bne_iff_ne, ne_eq, Bool.not_eq_true', List.contains_eq_mem, decide_eq_false_iff_not] at hd
  obtain ⟨hd1, hd2⟩ := hd
  have hput : ∀ e, some d = some e → e ∉ oi.looksAt ops := fun e he => by cases he; exact hd2
  rw [← hl, ← hN] at h
  have second : ∀ G w, I (some G) w → wpAnyH P .any ops Q (fun w => ∃ g, I g w) (n + 1) (listed.setIfInBounds ia true) (a.put (some d) (.pointer (some ⟨G, 0, none⟩))) w := by
    intro G w hI
    refine wpAnyH_all rfl (List.ne_nil_of_mem h5) (fun j hj => ?_)
    rw [h3 j hj]
    refine wpOp_call (n := 0) (v := v) (f := f) (args := args) hi (by rw [wanted_put oi a _ _ hput]; exact hw) (by rw [execOp_put oi (Region.noSelect_spec h1 i oi · · hi) a _ _ hput]; exact hrun w) ((hc _ _ hI).mono ?_)
    rintro e w' ⟨rfl, hI'⟩
    have h6 := h.2 G w' hI'
    rw [Array.setIfInBounds_comm _ _ (Ne.symm hne)] at h6
    rw [Act.put_comm a (x := some d) (y := oi.dst) _ _ (fun e he => by cases he; rw [hN]; intro h; cases h; exact hd1 rfl)]
    exact ⟨rfl, ⟨_, hI'⟩, h6⟩
  refine ⟨fun w hI => ?_, second⟩
  refine wpAnyH_all rfl (List.ne_nil_of_mem h4) (fun j hj => ?_)
  rcases h2 j hj with rfl | rfl
  · refine wpOp_call (n := 0) (v := v) (f := f) (args := args) hi hw (hrun w) ((hc _ _ hI).mono ?_)
    rintro e w' ⟨rfl, hI'⟩
    exact ⟨rfl, ⟨_, hI'⟩, h.1 w' hI'⟩
  · obtain ⟨oa, ha1, ha2, ha3, ob, ha4⟩ := ho.some_
    unfold wpOp
    simp only [ha1, ha3 a, if_true]
    refine Or.inl ?_
    unfold Oper.wp
    rw [(ha4 a w).1]
    show (∃ g, I g (w.alloc ob)) ∧ _
    rw [ha2]
    exact ⟨⟨_, (ha4 a w).2 hI⟩, second _ _ ((ha4 a w).2 hI)⟩
theorem Two.last {n : Nat} {listed : Array Bool} {a : Act} (ho : AlOp P ops I d ia) (listed' : Array Bool) (hl : listed.setIfInBounds ia true = listed')
    (hs : Region.ready .any ops listed = [ia])
    (h : ∀ G w, I (some G) w → wpAnyH P .any ops Q (fun w => ∃ g, I g w) n listed' (a.put (some d) (.pointer (some ⟨G, 0, none⟩))) w) : Two P ops Q I d ia n listed a := by
  rw [← hl] at h
  refine ⟨fun w hI => wpAnyH_all hs (by simp) (fun j hj => ?_), h⟩
  rw [List.mem_singleton] at hj
  rw [hj]
  obtain ⟨oa, ha1, ha2, ha3, ob, ha4⟩ := ho.some_
  unfold wpOp
  simp only [ha1, ha3 a, if_true]
  refine Or.inl ?_
  unfold Oper.wp
  rw [(ha4 a w).1]
  show (∃ g, I g (w.alloc ob)) ∧ _
  rw [ha2]
  exact ⟨⟨_, (ha4 a w).2 hI⟩, h _ _ ((ha4 a w).2 hI)⟩
theorem Two.start {id n : Nat} {a : Act} {w : World} (ls : Array Bool) (hm : P.follows .mixedOrders = true) (hn : ops.size = n + 1) (hl : Array.replicate ops.size false = ls) (hI : I none w.drew) (ho : AlOp P ops I d ia) (h : AlOp P ops I d ia → Two P ops Q I d ia n ls a) :
    (Code.region id ops true).wp P Q a w := by
  refine wp_region_held (S := fun w => ∃ g, I g w) hm ?_
  rw [hl, hn]
  exact (h ho).1 _ hI
end
end Go.Proofs.YtoodidokjchplaaDoor.Un
