/- cluster.Count, Cells: walked. -/
import Derived.Test.YtoodidokjchplaaDoorCW
namespace Go.Proofs.YtoodidokjchplaaDoor.Un
open Go Go.RowKit Go.Shelf
open Go.Proofs.YtoodidokjchplaaDoor.Wk (bcell bel_drew bel_drewN bel_alloc bel_set bel_call size_len blk_cell blk_below blk_lt)
set_option linter.unusedVariables false
set_option linter.unusedSimpArgs false
attribute [local go_sem] Oper.semAt_some
theorem clN_range : ∀ (f : Nat) (l : List UInt8) (o : Nat), ∀ x ∈ clN f l o, 0 ≤ x.2.2.2 ∧ x.2.2.2 ≤ 2
  | 0, l, o, x, hx => by simp [clN] at hx
  | f + 1, l, o, x, hx => by
    unfold clN at hx
    split at hx
    · simp at hx
    · rcases List.mem_cons.mp hx with rfl | hx
      · have := cel_range (chAt l o)
        show 0 ≤ (if crlf l o = true then (0 : Int) else celOf (chAt l o)) ∧ (if crlf l o = true then (0 : Int) else celOf (chAt l o)) ≤ 2
        split <;> omega
      · exact clN_range f l _ x hx
theorem cl_range {l : List UInt8} {x : C4} (h : x ∈ clL l) : 0 ≤ x.2.2.2 ∧ x.2.2.2 ≤ 2 := clN_range _ l 0 x h
theorem sum_range {l : List UInt8} : ∀ (pre : List (ClIn l)), 0 ≤ sumC (pre.map (·.1)) ∧ sumC (pre.map (·.1)) ≤ 2 * pre.length
  | [] => by simp [sumC]
  | x :: r => by
    have := sum_range r
    have := cl_range x.2
    simp only [sumC, List.map_cons, List.sum_cons, List.length_cons] at *
    omega
set_option maxRecDepth 100000 in
set_option maxHeartbeats 4000000 in
theorem count_calls (s : ByteArray) (hs : s.size ≤ 1000000000) (w : World) (hT : Tb w) :
    Calls Tryd.prog 21 #[.string s] w fun e w' => e = .returned (.int .i64 (cC s.data.toList : Nat)) ∧ Below w.heap.size w w' := by
  have HT := Lib.hid hT
  clear hT
  refine (callsIn_wide (n := 6)).1 ?_
  refine callsIn_of_wp_marks Tryd.func21 rfl trivial ?_ rfl
  simp only [Tryd.ntmps21, List.size_toArray, List.length_cons, List.length_nil, Nat.reduceAdd, Nat.reduceSub, Array.replicate_succ, Array.replicate_zero, List.push_toArray, List.append_toArray, List.nil_append, List.cons_append]
  gi_wp2_with (refine ⟨trivial, ?_⟩; gi_at_call 50; refine (callsIn_wide.2 (cwalk_calls s _)).mono ?_; rintro e w' ⟨rfl, rfl⟩)
  have bO := (Boxed.new w 3 (.int .i64 0)).alloc (.cells #[.string s] 9)
  have bS := heap_alloc_new (w.alloc (.cells #[.int .i64 0] 3)) (.cells #[.string s] 9)
  have hB0 : Below w.heap.size w ((w.alloc (.cells #[.int .i64 0] 3)).alloc (.cells #[.string s] 9)) := bel_alloc (bel_alloc (Below.refl _ w) _) _
  have hsz : ((w.alloc (.cells #[.int .i64 0] 3)).alloc (.cells #[.string s] 9)).heap.size = w.heap.size + 2 := by simp
  rw [Wk.size_alloc] at bS
  have hN : (clL s.data.toList).length ≤ s.size := by rw [clL_len, ← size_len]; exact cC_le _
  obtain ⟨W0, hW0⟩ : ∃ W0, (w.alloc (.cells #[.int .i64 0] 3)).alloc (.cells #[.string s] 9) = W0 := ⟨_, rfl⟩
  rw [hW0] at bO bS hB0 hsz ⊢
  clear hW0
  refine wpIn_rangeFunc_ownH rfl (by omega) (gf := 68) (lb := #[.pointer (some ⟨w.heap.size + 1, 0, none⟩)]) rfl trivial (enters_of Tryd.func68 (by kernel_rfl) rfl)
    (cwalk_stops s hs _ (by omega) (w.heap.size + 1) w.heap.size w W0 rfl HT.out hB0 bS) KC.trans (KC.putObj (by omega) (by omega)) (Below.refl _ _) (fun _ => rfl)
    (fun pre W => (Boxed W w.heap.size 3 (.int .i64 (pre.length : Nat)) ∧ Boxed W (w.heap.size + 1) 9 (.string s)) ∧ Below w.heap.size w W)
    (fun _ _ _ => False)
    (OwnFrom.and (OwnFrom.and (Own.from (boxed_own w.heap.size 3 (fun pre : List (ClIn s.data.toList) => .int .i64 (pre.length : Nat))) _) (Own.from (boxed_own _ _ _) _)) (ownFrom_below (Nat.le_refl _) (by omega)))
    (fun _ _ _ _ _ hs _ _ => hs)
    ⟨⟨bO, bS⟩, hB0⟩
    (fun x a' W => a' = { tmps := #[.string s, undef, .int .i64 0, .pointer (some ⟨w.heap.size, 0, none⟩), .string s, .func (.func 68) #[] #[.pointer (some ⟨w.heap.size + 1, 0, none⟩)], .agg #[.int .i64 (x.1.1 : Nat), .int .i64 (x.1.2.1 : Nat), .int .i64 x.1.2.2.1, .int .i64 x.1.2.2.2], undef, undef, undef], defers := [] })
    (fun x a' _ X Y row hs hg hr => hs)
    ?assign ?body ?done ?stop
  case assign =>
    rintro l pre x W K ⟨⟨hv, hbs⟩, hB1⟩ hK
    dsimp only [cE]
    gi_wp2
    exact hK _ _ (KeepsFrom.refl _ _) (KC.refl _ _ _) ⟨⟨hv, hbs⟩, hB1⟩ (by simp)
  case body =>
    rintro l pre x a' W hl ⟨r, hr⟩ ⟨⟨hv, hbs⟩, hB1⟩ rfl hlt
    have cO := hv.cell
    have fO := hv.frozen
    have hpl : pre.length + 1 ≤ 1000000000 := by omega
    gi_wp2
    refine ⟨(KeepsOthers.setCell _ _ _).from _, ⟨(Below.refl w.heap.size W).setCell (show w.heap.size ≤ (⟨w.heap.size, 0, none⟩ : Addr).block from Nat.le_refl _) _, fun h => Below.heap_setCell W ⟨w.heap.size, 0, none⟩ _ _ (by show ¬ _ = w.heap.size; omega)⟩, ⟨?_, hbs.other (by omega) _⟩, bel_set hB1 (Nat.le_refl _) _⟩
    have h9 := hv.set (.int .i64 ((pre.length : Int) + 1))
    rw [List.length_append, List.length_singleton]
    exact h9
  case done =>
    rintro D zs W hD hz ⟨⟨hv, hbs⟩, hB1⟩ hK
    have cS := hv.cell
    have hzl : zs.length = cC s.data.toList := by
      have h1 := congrArg List.length hz
      rw [List.length_map, clL_len] at h1
      exact h1
    gi_wp2
    refine ⟨by simp, .inl ⟨_, _, rfl, run_takeDeferred hK, ?_⟩⟩
    exact ⟨_, results_tmp rfl _ _ _, by rw [← hzl]; rfl, hB1.trans (belowK_b (w := w) (Nat.le_refl _) W D _ _ (by omega) hK rfl rfl)⟩
  case stop =>
    rintro D c pre W _ _ h _
    exact h.elim
set_option maxRecDepth 100000 in
set_option maxHeartbeats 4000000 in
theorem cellsum_calls (s : ByteArray) (hs : s.size ≤ 1000000000) (w : World) (hT : Tb w) :
    Calls Tryd.prog 22 #[.string s] w fun e w' => e = .returned (.int .i64 (cX s.data.toList)) ∧ Below w.heap.size w w' := by
  have HT := Lib.hid hT
  clear hT
  refine (callsIn_wide (n := 6)).1 ?_
  refine callsIn_of_wp_marks Tryd.func22 rfl trivial ?_ rfl
  simp only [Tryd.ntmps22, List.size_toArray, List.length_cons, List.length_nil, Nat.reduceAdd, Nat.reduceSub, Array.replicate_succ, Array.replicate_zero, List.push_toArray, List.append_toArray, List.nil_append, List.cons_append]
  gi_wp2_with (refine ⟨trivial, ?_⟩; gi_at_call 50; refine (callsIn_wide.2 (cwalk_calls s _)).mono ?_; rintro e w' ⟨rfl, rfl⟩)
  have bO := (Boxed.new w 3 (.int .i64 0)).alloc (.cells #[.string s] 9)
  have bS := heap_alloc_new (w.alloc (.cells #[.int .i64 0] 3)) (.cells #[.string s] 9)
  have hB0 : Below w.heap.size w ((w.alloc (.cells #[.int .i64 0] 3)).alloc (.cells #[.string s] 9)) := bel_alloc (bel_alloc (Below.refl _ w) _) _
  have hsz : ((w.alloc (.cells #[.int .i64 0] 3)).alloc (.cells #[.string s] 9)).heap.size = w.heap.size + 2 := by simp
  rw [Wk.size_alloc] at bS
  have hN : (clL s.data.toList).length ≤ s.size := by rw [clL_len, ← size_len]; exact cC_le _
  obtain ⟨W0, hW0⟩ : ∃ W0, (w.alloc (.cells #[.int .i64 0] 3)).alloc (.cells #[.string s] 9) = W0 := ⟨_, rfl⟩
  rw [hW0] at bO bS hB0 hsz ⊢
  clear hW0
  refine wpIn_rangeFunc_ownH rfl (by omega) (gf := 68) (lb := #[.pointer (some ⟨w.heap.size + 1, 0, none⟩)]) rfl trivial (enters_of Tryd.func68 (by kernel_rfl) rfl)
    (cwalk_stops s hs _ (by omega) (w.heap.size + 1) w.heap.size w W0 rfl HT.out hB0 bS) KC.trans (KC.putObj (by omega) (by omega)) (Below.refl _ _) (fun _ => rfl)
    (fun pre W => (Boxed W w.heap.size 3 (.int .i64 (sumC (pre.map (·.1)))) ∧ Boxed W (w.heap.size + 1) 9 (.string s)) ∧ Below w.heap.size w W)
    (fun _ _ _ => False)
    (OwnFrom.and (OwnFrom.and (Own.from (boxed_own w.heap.size 3 (fun pre : List (ClIn s.data.toList) => .int .i64 (sumC (pre.map (·.1))))) _) (Own.from (boxed_own _ _ _) _)) (ownFrom_below (Nat.le_refl _) (by omega)))
    (fun _ _ _ _ _ hs _ _ => hs)
    ⟨⟨bO, bS⟩, hB0⟩
    (fun x a' W => ∃ Bx, w.heap.size + 1 < Bx ∧ W.heap[Bx]? = some (.cells #[.int .i64 (x.1.1 : Nat), .int .i64 (x.1.2.1 : Nat), .int .i64 x.1.2.2.1, .int .i64 x.1.2.2.2] 62 (0, 0)) ∧ a' = { tmps := #[.string s, undef, .int .i64 0, .pointer (some ⟨w.heap.size, 0, none⟩), .pointer (some ⟨Bx, 0, none⟩), .string s, .func (.func 68) #[] #[.pointer (some ⟨w.heap.size + 1, 0, none⟩)], .agg #[.int .i64 (x.1.1 : Nat), .int .i64 (x.1.2.1 : Nat), .int .i64 x.1.2.2.1, .int .i64 x.1.2.2.2], undef, undef, undef, undef, undef], defers := [] })
    (fun x a' _ X Y row hs hg hr => by
      obtain ⟨Bx, h1, h2, h3⟩ := hs
      refine ⟨Bx, h1, (hg.block Bx (blk_lt h2) (fun e => ?_)).trans h2, h3⟩
      obtain ⟨-, o, ho, hc⟩ := hr Bx e.symm
      rw [h2] at ho; cases ho; cases hc)
    ?assign ?body ?done ?stop
  case assign =>
    rintro l pre x W K ⟨⟨hv, hbs⟩, hB1⟩ hK
    dsimp only [cE]
    gi_wp2
    exact hK _ _ ((KeepsOthers.alloc _ _).from _) (KC.alloc hB1.size _) ⟨⟨hv.alloc _, hbs.alloc _⟩, hB1.alloc hB1.size _⟩ ⟨W.heap.size, hbs.lt, heap_alloc_new W _, rfl⟩
  case body =>
    rintro l pre x a' W hl ⟨r, hr⟩ ⟨⟨hv, hbs⟩, hB1⟩ ⟨Bx, hBx, bX, rfl⟩ hlt
    have cO := hv.cell
    have fO := hv.frozen
    have x3 := blk_cell bX 3
    simp only [List.getElem?_toArray, List.getElem?_cons_succ, List.getElem?_cons_zero] at x3
    obtain ⟨p1, p2⟩ := sum_range pre
    obtain ⟨p3, p4⟩ := cl_range x.2
    obtain ⟨S, hS⟩ : ∃ S, sumC (pre.map (·.1)) = S := ⟨_, rfl⟩
    obtain ⟨X, hX⟩ : ∃ X, x.1.2.2.2 = X := ⟨_, rfl⟩
    rw [hS] at cO p1 p2
    rw [hX] at x3 p3 p4
    have q1 : S + X ≤ 9223372036854775807 := by omega
    have q2 : -9223372036854775808 ≤ S + X := by omega
    have w1 : IntKind.i64.wrap (S + X) = S + X := by rw [IntKind.wrap_i64]; omega
    gi_wp2
    refine ⟨(KeepsOthers.setCell _ _ _).from _, ⟨(Below.refl w.heap.size W).setCell (show w.heap.size ≤ (⟨w.heap.size, 0, none⟩ : Addr).block from Nat.le_refl _) _, fun h => Below.heap_setCell W ⟨w.heap.size, 0, none⟩ _ _ (by show ¬ _ = w.heap.size; omega)⟩, ⟨?_, hbs.other (by omega) _⟩, bel_set hB1 (Nat.le_refl _) _⟩
    have h9 := hv.set (.int .i64 (S + X))
    rw [show sumC ((pre ++ [x]).map (·.1)) = S + X by rw [← hS, ← hX]; simp [sumC]]
    exact h9
  case done =>
    rintro D zs W hD hz ⟨⟨hv, hbs⟩, hB1⟩ hK
    have cS := hv.cell
    have hzl : sumC (zs.map (·.1)) = cX s.data.toList := by rw [hz, clL_sum]
    gi_wp2
    refine ⟨by simp, .inl ⟨_, _, rfl, run_takeDeferred hK, ?_⟩⟩
    exact ⟨_, results_tmp rfl _ _ _, by rw [← clL_sum]; rfl, hB1.trans (belowK_b (w := w) (Nat.le_refl _) W D _ _ (by omega) hK rfl rfl)⟩
  case stop =>
    rintro D c pre W _ _ h _
    exact h.elim
end Go.Proofs.YtoodidokjchplaaDoor.Un
