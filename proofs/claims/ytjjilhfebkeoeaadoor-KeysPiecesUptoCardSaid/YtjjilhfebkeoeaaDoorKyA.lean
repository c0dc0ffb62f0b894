/- The tables; a text's first unit, At 0, Begun: walked. -/
import Derived.Test.YtjjilhfebkeoeaaDoorKyU
import Derived.Test.YtjjilhfebkeoeaaDoorShelf
import Derived.Test.YtjjilhfebkeoeaaDoorWk
import Derived.Lib.LaidTab
import Derived.LoopTactic
import Derived.Deep.LoopGhost
import Derived.Outline
import Derived.Lib.Hide
import Derived.BigQuiet
import Derived.BigRegion
namespace Go.Proofs.YtjjilhfebkeoeaaDoor.Ky
open Go Go.RowKit
open Go.Proofs.YtjjilhfebkeoeaaDoor.Wk (bcell bel_drew bel_drewN bel_alloc bel_set bel_call size_len mk_data beq_true_i bne_true_i bne_false_i beq_false_i drop_cons var_below)
set_option linter.unusedVariables false
set_option linter.unusedSimpArgs false

/-- What the walks read of the library's variables. -/
structure Tb (w : World) : Prop where
  u : Lib.Utf8Tabs 0 1 w
  m : ∃ m, w.cell? ⟨3, 0, none⟩ = some (.int .i64 m)
  p : Lib.TabIs Tryd.prog w "internal/strconv.uint64pow10" .u64 Lib.pow10Tab
theorem Tb.below {w W : World} (h : Tb w) (hb : Below w.heap.size w W) : Tb W := by
  have hc : ∀ (a : Addr) v, w.cell? a = some v → W.cell? a = some v := fun a v ha => (hb.cell (World.block_lt_of_cell? _ _ ha)).trans ha
  refine ⟨⟨fun c hc' => hc _ _ (h.u.1 c hc'), fun i hi => ⟨hc _ _ (h.u.2 i hi).1, hc _ _ (h.u.2 i hi).2⟩⟩, ?_, var_below (P := Tryd.prog) h.p hb⟩
  obtain ⟨m, hm⟩ := h.m
  exact ⟨m, hc _ _ hm⟩
theorem Tb.bel {w0 w : World} (h : Tb w0) (hb : Below w0.heap.size w0 w) : Tb w := h.below hb

def unV (l : List UInt8) : Value := .agg #[.int .i32 (fst l).1, .int .i64 (fst l).2]
theorem run_size (c n : Int) (w : World) : (Instr.field 27 (.agg #[.int .i32 c, .int .i64 n]) 1).run Tryd.prog w = .ok (.int .i64 n) w := by kernel_rfl
theorem run_char (c n : Int) (w : World) : (Instr.field 27 (.agg #[.int .i32 c, .int .i64 n]) 0).run Tryd.prog w = .ok (.int .i32 c) w := by kernel_rfl
theorem decode_calls (s : ByteArray) (h0 : 0 < s.size) (w : World) (hT : Tb w) (a b : Nat) (hd : dec s.data.toList = (a, b)) :
    Calls Tryd.prog 42 #[.string s] w fun e w' => e = .returned (.tuple #[.int .i32 a, .int .i64 b]) ∧ Below w.heap.size w w' :=
  (Tryd.utf8_DecodeRuneInString s w hT.u).mono (by
    rintro e w' ⟨rfl, hb⟩
    rw [dec_go s h0, hd]
    exact ⟨rfl, hb⟩)
theorem ret_un {l : List UInt8} {a b : Int} (h1 : (fst l).1 = a) (h2 : ((fst l).2 : Int) = b) : Ending.returned (.agg #[.int .i32 a, .int .i64 b]) = .returned (unV l) := by unfold unV; rw [h1, h2]
set_option maxRecDepth 100000 in
theorem first_calls (s : ByteArray) (h0 : 0 < s.size) (w : World) (hT : Tb w) :
    Calls Tryd.prog 31 #[.string s] w fun e w' => e = .returned (unV s.data.toList) ∧ Below w.heap.size w w' := by
  obtain ⟨a, r, hl⟩ : ∃ a r, s.data.toList = a :: r := List.exists_cons_of_ne_nil (fun e => by have := size_len s; rw [e] at this; simp at this; omega)
  have hB := fst_bound s.data.toList
  rcases dec_fst a r with ⟨h1, h2⟩ | ⟨h1, h2, h3⟩
  · rw [← hl] at h1 h2
    have hf : Hid (fst s.data.toList = (-1, 1)) := by
      show _ = _
      rw [hl] at h1 ⊢
      exact (fst_neg h1).1
    have HD := fun W hT => decode_calls s h0 W hT _ _ h2
    replace HD := Lib.hid HD
    have HT := Lib.hid hT
    clear hl h1 h2 hB hT
    go_enter Tryd.func31, Tryd.ntmps31
    go_wp2_with (go_at_call 42; refine (HD.out _ (HT.out.below ((Below.refl _ _).alloc (Nat.le_refl _) _))).mono ?_; rintro e wz ⟨rfl, hb⟩; obtain ⟨hc, hf'⟩ := bcell hb; have hz := hb.size)
    refine bodyPost_ret (v := .agg #[.int .i32 (-1), .int .i64 1]) (by simp [results, Tryd.results31, go_sem, hc]) rfl ⟨ret_un (by rw [hf.out]) (by rw [hf.out]; rfl), ?_⟩
    repeat (with_reducible first | refine bel_call ?_ hb | refine bel_alloc ?_ _ | refine bel_set ?_ (Nat.le_refl _) _ | exact Below.refl _ _)
  · rw [← hl] at h1 h2 h3
    have HD := fun W hT => decode_calls s h0 W hT _ _ h2
    replace HD := Lib.hid HD
    have HT := Lib.hid hT
    obtain ⟨c, hc0⟩ : ∃ c : Nat, c = (fst s.data.toList).1.toNat := ⟨_, rfl⟩
    obtain ⟨n, hn0⟩ : ∃ n, n = (fst s.data.toList).2 := ⟨_, rfl⟩
    rw [← hc0, ← hn0] at HD
    have hC : Hid ((fst s.data.toList).1 = (c : Int)) := (by omega : (fst s.data.toList).1 = (c : Int))
    have hN : Hid (((fst s.data.toList).2 : Int) = (n : Int)) := by show _ = _; rw [← hn0]
    have hn : (n : Int) ≤ 4 := by omega
    have hcb : (c : Int) ≤ 1114111 := by omega
    by_cases g : (c : Int) = 65533
    · have q1 := beq_true_i g
      have q2 : ((n : Int) == 1) = false := beq_false_i (by have := h3 (by omega); omega)
      clear hl h1 h2 h3 hB hT hc0 hn0 g
      go_enter Tryd.func31, Tryd.ntmps31
      go_wp2_with (go_at_call 42; refine (HD.out _ (HT.out.below ((Below.refl _ _).alloc (Nat.le_refl _) _))).mono ?_; rintro e wz ⟨rfl, hb⟩; obtain ⟨hc, hf'⟩ := bcell hb; have hz := hb.size)
      refine bodyPost_ret (v := .agg #[.int .i32 c, .int .i64 n]) (by simp [results, Tryd.results31, go_sem, hc]) rfl ⟨ret_un hC.out hN.out, ?_⟩
      repeat (with_reducible first | refine bel_call ?_ hb | refine bel_alloc ?_ _ | refine bel_set ?_ (Nat.le_refl _) _ | exact Below.refl _ _)
    · have q1 := beq_false_i g
      clear hl h1 h2 h3 hB hT hc0 hn0 g
      go_enter Tryd.func31, Tryd.ntmps31
      go_wp2_with (go_at_call 42; refine (HD.out _ (HT.out.below ((Below.refl _ _).alloc (Nat.le_refl _) _))).mono ?_; rintro e wz ⟨rfl, hb⟩; obtain ⟨hc, hf'⟩ := bcell hb; have hz := hb.size)
      refine bodyPost_ret (v := .agg #[.int .i32 c, .int .i64 n]) (by simp [results, Tryd.results31, go_sem, hc]) rfl ⟨ret_un hC.out hN.out, ?_⟩
      repeat (with_reducible first | refine bel_call ?_ hb | refine bel_alloc ?_ _ | refine bel_set ?_ (Nat.le_refl _) _ | exact Below.refl _ _)

theorem ret_b {a b : Bool} (h : a = b) : Ending.returned (.bool a) = .returned (.bool b) := by rw [h]
end Go.Proofs.YtjjilhfebkeoeaaDoor.Ky
