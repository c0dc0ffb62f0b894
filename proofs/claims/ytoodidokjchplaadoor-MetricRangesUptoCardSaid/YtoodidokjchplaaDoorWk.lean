/- Small words for walks by hand: what stays below, what a string's cut is. -/
import Derived.WalkKit
import Derived.LoopTactic
import Derived.Deep.LoopGhost
import Derived.Deep.Draws
import Derived.Outline
import Derived.Lib.Hide
import Derived.Lib.Strings
import Derived.BigQuiet
import Derived.Laws.BitsLemmas
import Derived.Laws.BitsAllLaws
import Derived.Laws.Strings3
import Derived.Laws.DeepStrings4
import Derived.Laws.Slices
import Derived.Laws.Rows
import Derived.Maps.AppendAt
import Derived.Laws.BytesArg
import Derived.Laws.BytesString
import Derived.Lib.AppendStr
import Derived.Lib.UnsafeStr
import Derived.Laws.OwnMore
namespace Go.Proofs.YtoodidokjchplaaDoor.Wk
open Go Go.RowKit
set_option linter.unusedVariables false

theorem bcell {W w1 : World} (hb : Below W.heap.size W w1) : (∀ b o, b < W.heap.size → w1.cell? ⟨b, o, none⟩ = W.cell? ⟨b, o, none⟩) ∧ (∀ b o, b < W.heap.size → w1.frozen? ⟨b, o, none⟩ = W.frozen? ⟨b, o, none⟩) :=
  ⟨fun b o h => hb.cell (p := ⟨b, o, none⟩) h, fun b o h => hb.frozen (p := ⟨b, o, none⟩) h⟩
theorem bel_drewN {B : Nat} {a w : World} (h : Below B a w) (n : Nat) : Below B a (w.drewN n) := ⟨h.os, h.tape, h.output, h.size, h.block⟩
theorem bel_drew {B : Nat} {a w : World} (h : Below B a w) : Below B a w.drew := ⟨h.os, h.tape, h.output, h.size, h.block⟩
theorem bel_alloc {w W : World} (h : Below w.heap.size w W) (o : Obj) : Below w.heap.size w (W.alloc o) := h.alloc h.size o
theorem bel_set {w W : World} {p : Addr} (h : Below w.heap.size w W) (hp : w.heap.size ≤ p.block) (u : Value) : Below w.heap.size w (W.setCell p u) := h.setCell hp u
theorem bel_call {w W w1 : World} (h : Below w.heap.size w W) (hb : Below W.heap.size W w1) : Below w.heap.size w w1 := h.trans (hb.mono h.size)
theorem heap_drewN (w : World) (n : Nat) : (w.drewN n).heap = w.heap := rfl
theorem heap_drew (w : World) : w.drew.heap = w.heap := rfl
theorem size_alloc (w : World) (o : Obj) : (w.alloc o).heap.size = w.heap.size + 1 := by simp
theorem size_set (w : World) (p : Addr) (u : Value) : (w.setCell p u).heap.size = w.heap.size := by simp [World.setCell]
theorem blk_alloc {w : World} {g : Nat} {ob : Obj} (h : w.heap[g]? = some ob) (o : Obj) : (w.alloc o).heap[g]? = some ob := by
  have hlt : g < w.heap.size := by
    rcases Nat.lt_or_ge g w.heap.size with h' | h'
    · exact h'
    · rw [Array.getElem?_eq_none h'] at h; cases h
  exact (Below.heap_alloc w o g hlt).trans h
theorem blk_below {w w1 : World} {g : Nat} {ob : Obj} (h : w.heap[g]? = some ob) (hb : Below w.heap.size w w1) : w1.heap[g]? = some ob := by
  have hlt : g < w.heap.size := by
    rcases Nat.lt_or_ge g w.heap.size with h' | h'
    · exact h'
    · rw [Array.getElem?_eq_none h'] at h; cases h
  exact (hb.block g hlt).trans h
theorem blk_lt {w : World} {g : Nat} {ob : Obj} (h : w.heap[g]? = some ob) : g < w.heap.size := by
  rcases Nat.lt_or_ge g w.heap.size with h' | h'
  · exact h'
  · rw [Array.getElem?_eq_none h'] at h; cases h
theorem blk_drewN {w : World} {g : Nat} {ob : Obj} (h : w.heap[g]? = some ob) (n : Nat) : (w.drewN n).heap[g]? = some ob := h
theorem blk_drew {w : World} {g : Nat} {ob : Obj} (h : w.heap[g]? = some ob) : w.drew.heap[g]? = some ob := h
theorem blk_far {w : World} {g : Nat} {ob : Obj} (h : w.heap[g]? = some ob) {p : Addr} (hp : g ≠ p.block) (u : Value) : (w.setCell p u).heap[g]? = some ob := (Below.heap_setCell w p u g hp).trans h
theorem blk_set {w : World} {g : Nat} {t : TypeId} {cs : Array Value} (h : w.heap[g]? = some (.cells cs t (0, 0))) (i : Nat) (u : Value) : (w.setCell ⟨g, i, none⟩ u).heap[g]? = some (.cells (cs.setIfInBounds i u) t (0, 0)) := by
  simp [World.setCell, Array.getElem?_modify, h]
theorem blk_cell {w : World} {g : Nat} {t : TypeId} {cs : Array Value} (h : w.heap[g]? = some (.cells cs t (0, 0))) (i : Nat) : w.cell? ⟨g, i, none⟩ = cs[i]? := by simp [World.cell?, h]
theorem blk_frozen {w : World} {g : Nat} {t : TypeId} {cs : Array Value} (h : w.heap[g]? = some (.cells cs t (0, 0))) (i : Nat) : w.frozen? ⟨g, i, none⟩ = false := by simp [World.frozen?, h]

theorem take_snoc (s : ByteArray) (k : Nat) (h : k < s.size) : s.data.toList.take (k + 1) = s.data.toList.take k ++ [s[k]] := by
  rw [List.take_succ_eq_append_getElem (by simpa using h)]; rfl
theorem drop_cons (s : ByteArray) (k : Nat) (h : k < s.size) : s.data.toList.drop k = s[k] :: s.data.toList.drop (k + 1) := by
  rw [List.drop_eq_getElem_cons (by simpa using h)]; rfl
theorem size_len (s : ByteArray) : s.data.toList.length = s.size := by simp
theorem beq_u8 (c n : UInt8) : ((c.toNat : Int) == (n.toNat : Int)) = true ↔ c = n := by rw [beq_iff_eq, ← UInt8.toNat_inj]; omega
theorem beq_false_i {n m : Int} (h : n ≠ m) : (n == m) = false := by rw [beq_eq_false_iff_ne]; exact h
theorem beq_true_i {n m : Int} (h : n = m) : (n == m) = true := by rw [beq_iff_eq]; exact h
theorem bne_true_i {n m : Int} (h : n ≠ m) : (n != m) = true := by rw [bne_iff_ne]; exact h
theorem bne_false_i {n m : Int} (h : n = m) : (n != m) = false := by rw [bne_eq_false_iff_eq]; exact h
theorem ne_of_beq {n m : Int} (h : (n == m) = false) : ¬ (n == m) = true := by rw [h]; simp
theorem list_beq {a b : List UInt8} (h : (a == b) = true) : a = b := by simpa using h
theorem list_bne {a b : List UInt8} (h : (a == b) = false) : a ≠ b := by simpa using h
/-- A row of bytes that the call owns, as a string. -/
theorem string_of_own {P : Program} {W : World} {B src dst e n : Nat} {v : Value} {o : List UInt8} (hs : P.underlying src = some (.slice e)) (he : P.underlying e = some (.int .u8)) (hd : P.underlying dst = some .string)
    (h : W.ownsRow B e 1 v n (Lib.byteCells o)) : (convert src dst v).run P W = .ok (.string ⟨o.toArray⟩) W := by
  rcases h.2 with ⟨rfl, h0⟩ | ⟨g, cap, cur, rfl, _⟩
  · have hl := h.1
    rw [Lib.byteCells_length] at hl
    have : o = [] := List.eq_nil_of_length_eq_zero (by omega)
    subst this
    exact run_convert_bytes_nil W src e hs he 0 0 dst hd
  · have hn : o.length = n := by have := h.1; rw [Lib.byteCells_length] at this; omega
    have hc := h.cells (g := g) (n := n) rfl
    have hl : (loadCells ⟨g, 0, none⟩ n).run P W = .ok ((o.map fun b => (b.toNat : Int)).map (Value.int .u8)).toArray W := by
      have := run_loadCells_list (P := P) W ⟨g, 0, none⟩ (Lib.byteCells o) (fun j u hj => hc j u hj)
      rw [Lib.byteCells_length, hn] at this
      rw [this]
      simp [Lib.byteCells, Function.comp_def]
    rw [run_convert_bytes_string W src dst e _ n cap hs he hd, run_bytesToString W _ n cap _ hl, foldl_push_bytes]
    congr 2
    simp [ByteArray.empty, ByteArray.emptyWithCapacity, Function.comp_def]
    rfl
theorem own_slice {W : World} {B e n : Nat} {v : Value} {xs : List Value} (h : W.ownsRow B e 1 v n xs) : ∃ A c, v = .slice A n c := by
  rcases h.2 with ⟨rfl, h0⟩ | ⟨g, cap, cur, rfl, _⟩
  · exact ⟨none, 0, by rw [h0]⟩
  · exact ⟨_, _, rfl⟩
theorem own_below {W W1 : World} {B e s n : Nat} {v : Value} {xs : List Value} (h : W.ownsRow B e s v n xs) (hb : Below W.heap.size W W1) : W1.ownsRow B e s v n xs :=
  h.kept (row := none) ⟨hb.os, hb.tape, hb.output, hb.size, fun i hi _ => hb.block i hi⟩ (Classical.em _)
theorem cells_new (W : World) (xs : List Value) (e : TypeId) : ∀ j u, xs[j]? = some u → (W.alloc (.cells xs.toArray e)).cell? ((⟨W.heap.size, 0, none⟩ : Addr).add j) = some u := by
  intro j u hj
  have hb : (W.alloc (.cells xs.toArray e)).heap[W.heap.size]? = some (.cells xs.toArray e (0, 0)) := heap_alloc_new W _
  have ha : (⟨W.heap.size, 0, none⟩ : Addr).add j = ⟨W.heap.size, j, none⟩ := by unfold Addr.add; split <;> simp_all
  rw [ha, blk_cell hb]
  simpa using hj
theorem mk_data (s : ByteArray) : (⟨s.data.toList.toArray⟩ : ByteArray) = s := by simp
theorem var_below {P : Program} {w W : World} {name : String} {cs : Array Value} (h : w.var? P name = some cs) (hb : Below w.heap.size w W) : W.var? P name = some cs := by
  unfold World.var? at h ⊢
  cases hg : P.globalNamed name with
  | none => simp [hg] at h
  | some g =>
    simp only [hg, Option.bind_some] at h ⊢
    have hlt : g < w.heap.size := by
      rcases Nat.lt_or_ge g w.heap.size with h' | h'
      · exact h'
      · simp [Array.getElem?_eq_none h'] at h
    rw [hb.block g hlt]
    exact h
end Go.Proofs.YtoodidokjchplaaDoor.Wk
