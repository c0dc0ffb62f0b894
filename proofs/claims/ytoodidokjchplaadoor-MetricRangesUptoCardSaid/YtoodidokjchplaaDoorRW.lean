/- Own rows of summaries. -/
import Derived.Test.YtoodidokjchplaaDoorRG
namespace Go.Proofs.YtoodidokjchplaaDoor.Un
open Go Go.RowKit Go.Shelf
open Go.Proofs.YtoodidokjchplaaDoor.Wk (bcell bel_drew bel_drewN bel_alloc bel_set bel_call size_len blk_cell blk_below blk_lt mk_data)
set_option linter.unusedVariables false
set_option linter.unusedSimpArgs false
theorem joinLE {A : Option Addr} {n c : Nat} {W : World} (T : List (List UInt8)) {l : List UInt8} (hl : T.flatten = l) (hb : l.length ≤ 1000000000) (hn : n = T.length) (L : List Sr) (hL : T.map mR = L) (hT : Tb W) {b u c' x k : Int} {h t : ByteArray} (e : mR l = ⟨b, u, c', x, k, h, t⟩) (hc : T.length ≤ 1000000000) (hR : RdS W A L) :
    Calls Tryd.prog 17 #[.slice A n c] W fun e w' => e = .returned (.agg #[.int .i64 b, .int .i64 u, .int .i64 c', .int .i64 x, .int .i64 k, .string h, .string t]) ∧ Below W.heap.size W w' := by
  subst hL
  exact joinL T l hl hb hn hR hT e hc
def cellsR (m : Sr) : List Value := [.int .i64 m.b, .int .i64 m.u, .int .i64 m.c, .int .i64 m.x, .int .i64 m.n, .string m.h, .string m.t]
def flatR (L : List Sr) : List Value := L.flatMap cellsR
theorem flatR_len : ∀ (L : List Sr), (flatR L).length = L.length * 7
  | [] => rfl
  | m :: r => by
    show (cellsR m ++ flatR r).length = _
    rw [List.length_append, flatR_len r, List.length_cons]
    show 7 + _ = _
    omega
theorem flatR_get : ∀ (L : List Sr) (i : Nat) (hi : i < L.length) (j : Nat) (hj : j < 7), (flatR L)[i * 7 + j]? = (cellsR L[i])[j]?
  | m :: r, 0, _, j, hj => by
    show (cellsR m ++ flatR r)[0 * 7 + j]? = (cellsR m)[j]?
    rw [List.getElem?_append_left (by show 0 * 7 + j < 7; omega)]
    rw [show 0 * 7 + j = j by omega]
  | m :: r, i + 1, hi, j, hj => by
    show (cellsR m ++ flatR r)[(i + 1) * 7 + j]? = (cellsR (m :: r)[i + 1])[j]?
    rw [List.getElem?_append_right (by show 7 ≤ (i + 1) * 7 + j; omega)]
    rw [show (i + 1) * 7 + j - (cellsR m).length = i * 7 + j by show (i + 1) * 7 + j - 7 = _; omega]
    exact flatR_get r i (by simpa using hi) j hj
theorem flatR_snoc (L : List Sr) (m : Sr) : flatR (L ++ [m]) = flatR L ++ cellsR m := by unfold flatR; rw [List.flatMap_append]; simp
theorem add0 (g k : Nat) : (⟨g, 0, none⟩ : Addr).add k = ⟨g, k, none⟩ := by
  unfold Addr.add
  split
  · rename_i h; rw [h]
  · simp
theorem RdS_own {W : World} {base : Nat} {t : TypeId} {v : Value} {L : List Sr} (h : W.ownsRow base t 7 v L.length (flatR L)) : ∃ A c, v = .slice A L.length c ∧ RdS W A L := by
  rcases h.2 with ⟨rfl, h0⟩ | ⟨g, cap, cur, rfl, hg, hh, hc, _, hsz, htk⟩
  · rw [h0]
    exact ⟨none, 0, rfl, fun i hi => absurd hi (by omega)⟩
  · refine ⟨some ⟨g, 0, none⟩, cap, rfl, fun i hi => ⟨⟨g, 0, none⟩, rfl, ?_⟩⟩
    rw [add0]
    have key : ∀ j, j < 7 → W.cell? ⟨g, i * 7 + j, none⟩ = (cellsR L[i])[j]? := by
      intro j hj
      rw [blk_cell hh, ← flatR_get L i hi j hj, ← htk, List.getElem?_take_of_lt (by omega), Array.getElem?_toList]
    exact ⟨key 0 (by omega), key 1 (by omega), key 2 (by omega), key 3 (by omega), key 4 (by omega), key 5 (by omega), key 6 (by omega)⟩
end Go.Proofs.YtoodidokjchplaaDoor.Un
