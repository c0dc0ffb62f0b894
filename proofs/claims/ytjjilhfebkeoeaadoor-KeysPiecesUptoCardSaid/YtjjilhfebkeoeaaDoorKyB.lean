/- At 0, Begun: walked. -/
import Derived.Test.YtjjilhfebkeoeaaDoorKyF
import Derived.RegionTactic
import Derived.ChangeAlike
namespace Go.Proofs.YtjjilhfebkeoeaaDoor.Ky
open Go Go.RowKit
open Go.Proofs.YtjjilhfebkeoeaaDoor.Wk (bcell bel_drew bel_drewN bel_alloc bel_set bel_call size_len mk_data beq_true_i bne_true_i bne_false_i beq_false_i drop_cons var_below)
set_option linter.unusedVariables false
set_option linter.unusedSimpArgs false

def keyV (k : Key) : Value := .agg #[.int .i64 k.kind, .int .i32 k.char, .bool k.ctrl, .bool k.mt, .bool k.shift, .string ⟨k.text.toArray⟩]
def knV (p : Key × Nat) : Value := .tuple #[keyV p.1, .int .i64 p.2]
theorem ret_k {k k' : Key} (h : k = k') : Ending.returned (.agg #[.int .i64 k'.kind, .int .i32 k'.char, .bool k'.ctrl, .bool k'.mt, .bool k'.shift, .string ⟨k'.text.toArray⟩]) = .returned (keyV k) := by rw [h]; rfl
theorem ret_kn {p : Key × Nat} {k' : Key} {n : Nat} (h : p = (k', n)) : Ending.returned (.tuple #[.agg #[.int .i64 k'.kind, .int .i32 k'.char, .bool k'.ctrl, .bool k'.mt, .bool k'.shift, .string ⟨k'.text.toArray⟩], .int .i64 n]) = .returned (knV p) := by rw [h]; rfl

theorem lt_alloc {w wz : World} {o : Obj} (hb : Below (w.alloc o).heap.size (w.alloc o) wz) : w.heap.size < wz.heap.size := by have := hb.size; simp at this; omega
theorem lt_next {w1 w2 : World} {n : Nat} (h : n < w1.heap.size) (hb : Below w1.heap.size w1 w2) : n < w2.heap.size := by have := hb.size; omega
set_option maxRecDepth 100000 in
theorem around0 (s : ByteArray) (h0 : 0 < s.size) (w : World) (hT : Tb w) :
    Calls Tryd.prog 68 #[.string s, .int .i64 0] w fun e w' => e = .returned (.tuple #[.int .i64 0, .int .i64 (fst s.data.toList).2]) ∧ Below w.heap.size w w' := by
  have m1 : max (0 : Int) (0 - 3) = 0 := by decide
  have m2 : max (0 : Int) (-3) = 0 := by decide
  have hz : (0 : Int) < s.size := by omega
  have q0 : ((0 : Int) == (s.size : Int)) = false := beq_false_i (by omega)
  have hx : s.extract 0 s.size = s := by simp
  have hb := fst_bound s.data.toList
  have hn : ((fst s.data.toList).2 : Int) ≤ 4 := by omega
  have hsz : run_size (fst s.data.toList).1 (fst s.data.toList).2 = run_size (fst s.data.toList).1 (fst s.data.toList).2 := rfl
  have rs := fun w => run_size (fst s.data.toList).1 (fst s.data.toList).2 w
  have HT := Lib.hid hT
  clear hb hT hsz
  go_enter Tryd.func68, Tryd.ntmps68
  go_wp2
  refine wp_loop_rounds 1 ?_; rw [rounds_succ]
  go_wp2_with (go_at_call 31; (try rw [hx]); (with_reducible refine (first_calls s h0 _ HT.out).mono ?_); rintro e wz ⟨rfl, hb⟩; unfold unV)
  go_ret2
  exact ⟨rfl, hb⟩
set_option maxRecDepth 100000 in
theorem bound0 (s : ByteArray) (h0 : 0 < s.size) (w : World) (hT : Tb w) :
    Calls Tryd.prog 69 #[.string s, .int .i64 0] w fun e w' => e = .returned (.bool true) ∧ Below w.heap.size w w' := by
  have hz : (0 : Int) < s.size := by omega
  have q0 : decide ((s.size : Int) < 0) = false := by rw [decide_eq_false_iff_not]; omega
  have HT := Lib.hid hT
  clear hT
  go_enter Tryd.func69, Tryd.ntmps69
  go_wp2_with (go_at_call 68; (with_reducible refine (around0 s h0 _ HT.out).mono ?_); rintro e wz ⟨rfl, hb⟩)
  go_ret
  exact ⟨rfl, hb⟩
set_option maxRecDepth 100000 in
theorem at0 (s : ByteArray) (h0 : 0 < s.size) (w : World) (hT : Tb w) :
    Calls Tryd.prog 70 #[.string s, .int .i64 0] w fun e w' => e = .returned (.tuple #[unV s.data.toList, .bool true]) ∧ Below w.heap.size w w' := by
  have hz : (0 : Int) < s.size := by omega
  have q0 : decide ((s.size : Int) ≤ 0) = false := by rw [decide_eq_false_iff_not]; omega
  have hne : ¬ s = ByteArray.empty := by rintro rfl; simp at h0
  have hx : s.extract 0 s.size = s := by simp
  have HT := Lib.hid hT
  clear hT
  go_enter Tryd.func70, Tryd.ntmps70
  go_wp2_with (first
    | (go_at_call 69; (with_reducible refine (bound0 s h0 _ (HT.out.below ((Below.refl _ _).alloc (Nat.le_refl _) _))).mono ?_); rintro e wz ⟨rfl, hb⟩; obtain ⟨hc, hf⟩ := bcell hb; have hz' := lt_alloc hb)
    | (go_at_call 31; (try rw [hx]); (with_reducible refine (first_calls s h0 _ (HT.out.below (bel_call ((Below.refl _ _).alloc (Nat.le_refl _) _) hb))).mono ?_); rintro e wy ⟨rfl, hb2⟩; obtain ⟨hc2, hf2⟩ := bcell hb2; have hy' := lt_next hz' hb2; unfold unV))
  refine bodyPost_ret (v := .tuple #[.agg #[.int .i32 (fst s.data.toList).1, .int .i64 (fst s.data.toList).2], .bool true]) (by simp [results, Tryd.results70, go_sem, hc, hc2, hz']) rfl ⟨rfl, ?_⟩
  repeat (with_reducible first | refine bel_call ?_ hb2 | refine bel_call ?_ hb | refine bel_alloc ?_ _ | refine bel_set ?_ (Nat.le_refl _) _ | exact Below.refl _ _)
set_option maxRecDepth 100000 in
theorem begun_calls (s : ByteArray) (h0 : 0 < s.size) (w : World) (hT : Tb w) :
    Calls Tryd.prog 73 #[.string s] w fun e w' => e = .returned (.bool (begun s.data.toList)) ∧ Below w.heap.size w w' := by
  have hn : s.toList.isEmpty = false := by
    rw [Lib.toList_data]
    cases h : s.data.toList with
    | nil => have := size_len s; rw [h] at this; simp at this; omega
    | cons a r => rfl
  have hn2 : (!s.toList.isEmpty) = true := by rw [hn]; rfl
  have HT := Lib.hid hT
  clear hT
  go_enter Tryd.func73, Tryd.ntmps73
  go_wp2_with (go_at_call 81; (with_reducible refine (full_calls s h0 _ HT.out).mono ?_); rintro e wz ⟨rfl, hb⟩)
  go_ret
  exact ⟨ret_b (by simp), hb⟩
end Go.Proofs.YtjjilhfebkeoeaaDoor.Ky
