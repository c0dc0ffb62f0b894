/- meaning: walked. -/
import Derived.Test.YtjjilhfebkeoeaaDoorKyE
import Derived.RegionTactic
import Derived.Deep.DeepCutAuto
import Derived.StillTailTactics
import Derived.ChangeAlike
namespace Go.Proofs.YtjjilhfebkeoeaaDoor.Ky
open Go Go.RowKit
open Go.Proofs.YtjjilhfebkeoeaaDoor.Wk (bcell bel_drew bel_drewN bel_alloc bel_set bel_call size_len mk_data beq_true_i bne_true_i bne_false_i beq_false_i drop_cons var_below)
set_option linter.unusedVariables false
set_option linter.unusedSimpArgs false



theorem cut1_eq (c : UInt8) : ∀ l : List UInt8, Cut.cut1 c l = cut1 c l
  | [] => rfl
  | x :: r => by
    simp only [Cut.cut1, cut1]
    split
    · rfl
    · rw [cut1_eq c r]
theorem cut_as {x A B : ByteArray} {b : Bool} (h : cut1 59 x.data.toList = (A.data.toList, B.data.toList, b)) (w : World) (hs : x.size ≤ 1000000000) :
    Calls Tryd.prog 82 #[.string x, .string ⟨#[59]⟩] w fun e w' => e = .returned (.tuple #[.string A, .string B, .bool b]) ∧ ∃ n, w' = w.drewN n :=
  (Cut.cut_calls x 59 w (by omega)).mono (by rintro e w' ⟨rfl, hn⟩; exact ⟨by rw [cut1_eq, h], hn⟩)
theorem in_ext (s : ByteArray) (i : Nat) (h : 2 ≤ i) : (s.extract 2 i).data.toList = (s.data.toList.take i).drop 2 := by
  rw [Lib.extract_data, List.drop_take]
theorem take_ext (s : ByteArray) (i : Nat) : (s.extract 0 i).data.toList = s.data.toList.take i := by
  rw [Lib.extract_data]; simp

def z6 : Array Value := #[.int .i64 0, .int .i32 0, .bool false, .bool false, .bool false, .string ⟨#[]⟩]
theorem set6 {W : World} {g : Nat} {a0 a1 a2 a3 a4 a5 : Value} (h : W.heap[g]? = some (.cells #[a0, a1, a2, a3, a4, a5] 50 (0, 0))) (v0 v1 v2 v3 v4 v5 : Value) :
    ((((((W.setCell ⟨g, 0, none⟩ v0).setCell ⟨g, 1, none⟩ v1).setCell ⟨g, 2, none⟩ v2).setCell ⟨g, 3, none⟩ v3).setCell ⟨g, 4, none⟩ v4).setCell ⟨g, 5, none⟩ v5).heap[g]? = some (.cells #[v0, v1, v2, v3, v4, v5] 50 (0, 0)) := by
  have := Wk.blk_set (Wk.blk_set (Wk.blk_set (Wk.blk_set (Wk.blk_set (Wk.blk_set h 0 v0) 1 v1) 2 v2) 3 v3) 4 v4) 5 v5
  rw [this]; rfl
theorem far6 {W : World} {g b : Nat} {o : Obj} (h : W.heap[g]? = some o) (hne : g ≠ b) (v0 v1 v2 v3 v4 v5 : Value) :
    ((((((W.setCell ⟨b, 0, none⟩ v0).setCell ⟨b, 1, none⟩ v1).setCell ⟨b, 2, none⟩ v2).setCell ⟨b, 3, none⟩ v3).setCell ⟨b, 4, none⟩ v4).setCell ⟨b, 5, none⟩ v5).heap[g]? = some o :=
  Wk.blk_far (Wk.blk_far (Wk.blk_far (Wk.blk_far (Wk.blk_far (Wk.blk_far h hne _) hne _) hne _) hne _) hne _) hne _
/-- What is known of the world ahead of the last rows of 'meaning': the result's box, the key's box. -/
structure At22 (w wr : World) (k : Key) : Prop where
  b0 : wr.heap[w.heap.size]? = some (.cells #[.int .i64 0, .int .i32 0, .bool false, .bool false, .bool false, .string ⟨#[]⟩] 50 (0, 0))
  b1 : wr.heap[w.heap.size + 1]? = some (.cells #[.int .i64 k.kind, .int .i32 k.char, .bool k.ctrl, .bool k.mt, .bool k.shift, .string ⟨k.text.toArray⟩] 50 (0, 0))
  bel : Below w.heap.size w wr
theorem at22 {w wz : World} {nd : Nat} (k : Key) (hb : Below (((w.alloc (.cells #[.int .i64 0, .int .i32 0, .bool false, .bool false, .bool false, .string ⟨#[]⟩] 50)).drewN nd).alloc (.cells #[.int .i64 0, .int .i32 0, .bool false, .bool false, .bool false, .string ⟨#[]⟩] 50)).heap.size (((w.alloc (.cells #[.int .i64 0, .int .i32 0, .bool false, .bool false, .bool false, .string ⟨#[]⟩] 50)).drewN nd).alloc (.cells #[.int .i64 0, .int .i32 0, .bool false, .bool false, .bool false, .string ⟨#[]⟩] 50)) wz) :
    At22 w ((((((wz.setCell ⟨w.heap.size + 1, 0, none⟩ (.int .i64 k.kind)).setCell ⟨w.heap.size + 1, 1, none⟩ (.int .i32 k.char)).setCell ⟨w.heap.size + 1, 2, none⟩ (.bool k.ctrl)).setCell ⟨w.heap.size + 1, 3, none⟩ (.bool k.mt)).setCell ⟨w.heap.size + 1, 4, none⟩ (.bool k.shift)).setCell ⟨w.heap.size + 1, 5, none⟩ (.string ⟨k.text.toArray⟩)) k := by
  have e0 : ((w.alloc (.cells #[.int .i64 0, .int .i32 0, .bool false, .bool false, .bool false, .string ⟨#[]⟩] 50)).drewN nd).heap[w.heap.size]? = some (.cells #[.int .i64 0, .int .i32 0, .bool false, .bool false, .bool false, .string ⟨#[]⟩] 50 (0, 0)) := Wk.blk_drewN (heap_alloc_new w _) nd
  have e1 := Wk.blk_alloc e0 (.cells #[.int .i64 0, .int .i32 0, .bool false, .bool false, .bool false, .string ⟨#[]⟩] 50)
  have e2 : (((w.alloc (.cells #[.int .i64 0, .int .i32 0, .bool false, .bool false, .bool false, .string ⟨#[]⟩] 50)).drewN nd).alloc (.cells #[.int .i64 0, .int .i32 0, .bool false, .bool false, .bool false, .string ⟨#[]⟩] 50)).heap[w.heap.size + 1]? = some (.cells #[.int .i64 0, .int .i32 0, .bool false, .bool false, .bool false, .string ⟨#[]⟩] 50 (0, 0)) := by
    have := heap_alloc_new ((w.alloc (.cells #[.int .i64 0, .int .i32 0, .bool false, .bool false, .bool false, .string ⟨#[]⟩] 50)).drewN nd) (.cells #[.int .i64 0, .int .i32 0, .bool false, .bool false, .bool false, .string ⟨#[]⟩] 50)
    rwa [show ((w.alloc (.cells #[.int .i64 0, .int .i32 0, .bool false, .bool false, .bool false, .string ⟨#[]⟩] 50)).drewN nd).heap.size = w.heap.size + 1 from by rw [Wk.heap_drewN, Wk.size_alloc]] at this
  exact ⟨far6 (Wk.blk_below e1 hb) (by omega) _ _ _ _ _ _, set6 (Wk.blk_below e2 hb) _ _ _ _ _ _, bel6 (bel_call (bel_alloc (bel_drewN (bel_a _ _) _) _) hb) (Nat.le_succ _)⟩
theorem lt_blk {w : World} {g : Nat} {o : Obj} (h : w.heap[g]? = some o) : g < w.heap.size := Wk.blk_lt h
theorem at22z {w : World} {nd : Nat} : At22 w (((w.alloc (.cells #[.int .i64 0, .int .i32 0, .bool false, .bool false, .bool false, .string ⟨#[]⟩] 50)).drewN nd).alloc (.cells #[.int .i64 0, .int .i32 0, .bool false, .bool false, .bool false, .string ⟨#[]⟩] 50)) key0 := by
  have e0 : ((w.alloc (.cells #[.int .i64 0, .int .i32 0, .bool false, .bool false, .bool false, .string ⟨#[]⟩] 50)).drewN nd).heap[w.heap.size]? = some (.cells #[.int .i64 0, .int .i32 0, .bool false, .bool false, .bool false, .string ⟨#[]⟩] 50 (0, 0)) := Wk.blk_drewN (heap_alloc_new w _) nd
  have e1 := Wk.blk_alloc e0 (.cells #[.int .i64 0, .int .i32 0, .bool false, .bool false, .bool false, .string ⟨#[]⟩] 50)
  refine ⟨e1, ?_, bel_alloc (bel_drewN (bel_a _ _) _) _⟩
  have := heap_alloc_new ((w.alloc (.cells #[.int .i64 0, .int .i32 0, .bool false, .bool false, .bool false, .string ⟨#[]⟩] 50)).drewN nd) (.cells #[.int .i64 0, .int .i32 0, .bool false, .bool false, .bool false, .string ⟨#[]⟩] 50)
  rwa [show ((w.alloc (.cells #[.int .i64 0, .int .i32 0, .bool false, .bool false, .bool false, .string ⟨#[]⟩] 50)).drewN nd).heap.size = w.heap.size + 1 from by rw [Wk.heap_drewN, Wk.size_alloc]] at this
theorem lt_alloc_d {w wz : World} {o : Obj} {n : Nat} (hb : Below ((w.alloc o).drewN n).heap.size ((w.alloc o).drewN n) wz) : w.heap.size < wz.heap.size := by
  have := hb.size; rw [Wk.heap_drewN, Wk.size_alloc] at this; omega
end Go.Proofs.YtjjilhfebkeoeaaDoor.Ky
