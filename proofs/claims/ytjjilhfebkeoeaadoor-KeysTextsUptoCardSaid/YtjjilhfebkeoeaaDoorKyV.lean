/- keys.same, Bytes: walked. -/
import Derived.Test.YtjjilhfebkeoeaaDoorKyT
import Derived.Test.YtjjilhfebkeoeaaDoorKyT3
import Derived.Deep.RegionHeld3
import Derived.Test.YtjjilhfebkeoeaaDoorPKyx2
import Derived.Maps.AppendAt
import Derived.Laws.AppendOwn
namespace Go.Proofs.YtjjilhfebkeoeaaDoor.Ky
open Go Go.RowKit Go.Proofs.YtjjilhfebkeoeaaDoor.PKy
open Go.Proofs.YtjjilhfebkeoeaaDoorW.PrintWords (bt rdOf Kd Drawn0 Reps Aside0)
open Go.Proofs.YtjjilhfebkeoeaaDoor.Wk (bcell bel_drew bel_drewN bel_alloc bel_set bel_call size_len mk_data beq_true_i bne_true_i bne_false_i beq_false_i drop_cons var_below blk_alloc blk_below blk_drewN blk_cell blk_frozen blk_far blk_set blk_lt own_slice own_below cells_new)
set_option linter.unusedVariables false
set_option linter.unusedSimpArgs false


theorem sequence_calls (k : Key) (w : World) : Calls Tryd.prog 39 #[keyV k] w fun e w' => e = .returned (.string ⟨(seqL k).toArray⟩) ∧ Below w.heap.size w w' := by
  obtain ⟨kind, char, ct, mt, sh, text⟩ := k
  cases ct <;> cases mt <;> cases sh
  · exact seq_1 kind char text w
  · exact seq_2 kind char text w
  · exact seq_3 kind char text w
  · exact seq_4 kind char text w
  · exact seq_5 kind char text w
  · exact seq_6 kind char text w
  · exact seq_7 kind char text w
  · exact seq_8 kind char text w
theorem eqb_toS (a b : Key) : eqb50 (toS a).f0 b.kind (toS a).f1 b.char (toS a).f2 b.ctrl (toS a).f3 b.mt (toS a).f4 b.shift (toS a).f5 ⟨b.text.toArray⟩ = decide (a = b) := by
  rw [Bool.eq_iff_iff]
  unfold eqb50 toS
  simp only [Bool.and_eq_true, beq_iff_eq, decide_eq_true_eq, Lib.toList_data]
  cases a; cases b
  simp only [Key.mk.injEq]
theorem ksame_calls (L : List Key) (k : Key) (A : Option Addr) (c : Nat) (w : World) (hC : Kd.C k50 w A L.length (L.map toS)) (hc : L.length ≤ c) :
    Calls Tryd.prog 40 #[.slice A L.length c, keyV k] w fun e w' => e = .returned (.bool (decide (L = [k]))) ∧ Below w.heap.size w w' := by
  have h := keys_same.calls A c (L.map toS) k.kind k.char k.ctrl k.mt k.shift ⟨k.text.toArray⟩ (decide (L = [k])) w (by rw [List.length_map]; exact hC) (by rw [List.length_map]; exact hc) (by
    unfold keys_same.f
    rw [List.length_map]
    match L with
    | [] => simp
    | [a] =>
      rw [if_pos (by simp), if_pos (by simp)]
      have : rd_T50 (List.map toS [a]) 0 = toS a := rfl
      rw [this, eqb_toS]
      simp
    | a :: b :: r =>
      rw [if_neg (by simp; omega)]
      simp)
  rw [List.length_map] at h
  exact h
theorem ksame_agg (L : List Key) (kind char : Int) (ct mt sh : Bool) (text : List UInt8) (A : Option Addr) (c : Nat) (w : World) (hC : Kd.C k50 w A L.length (L.map toS)) (hc : L.length ≤ c) :
    Calls Tryd.prog 40 #[.slice A L.length c, .agg #[.int .i64 kind, .int .i32 char, .bool ct, .bool mt, .bool sh, .string ⟨text.toArray⟩]] w fun e w' => e = .returned (.bool (decide (L = [⟨kind, char, ct, mt, sh, text⟩]))) ∧ Below w.heap.size w w' := ksame_calls L ⟨kind, char, ct, mt, sh, text⟩ A c w hC hc
/-- The key's cells in a world. -/
def K6 (W : World) (g : Nat) (kind char : Int) (ct mt sh : Bool) (text : List UInt8) : Prop :=
  W.cell? ⟨g, 0, none⟩ = some (.int .i64 kind) ∧ W.cell? ⟨g, 1, none⟩ = some (.int .i32 char) ∧ W.cell? ⟨g, 2, none⟩ = some (.bool ct) ∧ W.cell? ⟨g, 3, none⟩ = some (.bool mt) ∧ W.cell? ⟨g, 4, none⟩ = some (.bool sh) ∧ W.cell? ⟨g, 5, none⟩ = some (.string ⟨text.toArray⟩)
theorem K6.below {W W1 : World} {g : Nat} {kind char : Int} {ct mt sh : Bool} {text : List UInt8} (h : K6 W g kind char ct mt sh text) (hb : Below W.heap.size W W1) : K6 W1 g kind char ct mt sh text := by
  have hc : ∀ (a : Addr) v, W.cell? a = some v → W1.cell? a = some v := fun a v ha => (hb.cell (World.block_lt_of_cell? _ _ ha)).trans ha
  exact ⟨hc _ _ h.1, hc _ _ h.2.1, hc _ _ h.2.2.1, hc _ _ h.2.2.2.1, hc _ _ h.2.2.2.2.1, hc _ _ h.2.2.2.2.2⟩
theorem K6.alloc (w : World) (kind char : Int) (ct mt sh : Bool) (text : List UInt8) : K6 (w.alloc (.cells #[.int .i64 kind, .int .i32 char, .bool ct, .bool mt, .bool sh, .string ⟨text.toArray⟩] 50)) w.heap.size kind char ct mt sh text := by
  have h := heap_alloc_new w (.cells #[.int .i64 kind, .int .i32 char, .bool ct, .bool mt, .bool sh, .string ⟨text.toArray⟩] 50)
  exact ⟨blk_cell h 0, blk_cell h 1, blk_cell h 2, blk_cell h 3, blk_cell h 4, blk_cell h 5⟩
theorem bytes_yes {k : Key} {F : List UInt8} (h : form k = F) (hn : F ≠ []) (hr : keysOf true F = [k]) : bytesOf k = (F, true) := by
  unfold bytesOf; rw [h, if_neg (fun g => by rcases g with g | g; · exact hn g
                                             · exact g hr)]
theorem bytes_no {k : Key} {F : List UInt8} (h : form k = F) (hr : keysOf true F ≠ [k]) : bytesOf k = ([], false) := by
  unfold bytesOf; rw [h, if_pos (.inr hr)]
theorem bytes_nil {k : Key} (h : form k = []) : bytesOf k = ([], false) := by unfold bytesOf; rw [if_pos (.inl h)]
theorem ret_by {k : Key} {F : ByteArray} {b : Bool} (h : bytesOf k = (F.data.toList, b)) : Ending.returned (.tuple #[.string F, .bool b]) = .returned (.tuple #[.string ⟨(bytesOf k).1.toArray⟩, .bool (bytesOf k).2]) := by rw [h]
theorem K6.alloc2 (w : World) (o : Obj) (kind char : Int) (ct mt sh : Bool) (text : List UInt8) : K6 ((w.alloc (.cells #[.int .i64 kind, .int .i32 char, .bool ct, .bool mt, .bool sh, .string ⟨text.toArray⟩] 50)).alloc o) w.heap.size kind char ct mt sh text :=
  (K6.alloc w kind char ct mt sh text).below (bel_a _ o)
theorem one_row (w : World) (o : Obj) (c : Int) : ((w.alloc o).alloc (.cells #[.int .i32 c] 21)).heap[w.heap.size + 1]? = some (.cells #[.int .i32 c] 21 (0, 0)) := by
  have := heap_alloc_new (w.alloc o) (.cells #[.int .i32 c] 21)
  rwa [Wk.size_alloc] at this
theorem encode_as {E : ByteArray} {c : Int} (hE : E = ⟨(encL c).toArray⟩) (h0 : -2147483648 ≤ c) (h1 : c ≤ 2147483647) (g n : Nat) (hn : 1 ≤ n) (w : World) (hg : w.heap[g]? = some (.cells #[.int .i32 c] 21 (0, 0))) :
    Calls Tryd.prog 37 #[.slice (some ⟨g, 0, none⟩) 1 n] w fun e w' => e = .returned (.string E) ∧ Below w.heap.size w w' := by rw [hE]; exact encode_calls c h0 h1 g n hn w hg
theorem control_as {E : ByteArray} {c : Int} (hE : E = ⟨(ctl c).toArray⟩) (w : World) : Calls Tryd.prog 38 #[.int .i32 c] w fun e w' => e = .returned (.string E) ∧ w' = w := by rw [hE]; exact control_calls c w
theorem sequence_as (kind char : Int) (ct mt sh : Bool) (text : List UInt8) {E : ByteArray} (hE : E = ⟨(seqL ⟨kind, char, ct, mt, sh, text⟩).toArray⟩) (w : World) :
    Calls Tryd.prog 39 #[.agg #[.int .i64 kind, .int .i32 char, .bool ct, .bool mt, .bool sh, .string ⟨text.toArray⟩]] w fun e w' => e = .returned (.string E) ∧ Below w.heap.size w w' := by rw [hE]; exact sequence_calls ⟨kind, char, ct, mt, sh, text⟩ w
end Go.Proofs.YtjjilhfebkeoeaaDoor.Ky
