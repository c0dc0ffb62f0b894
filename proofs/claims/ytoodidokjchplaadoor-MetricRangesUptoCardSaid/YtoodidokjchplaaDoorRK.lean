/- The reference's list of clusters: plain; own rows of clusters. -/
import Derived.Test.YtoodidokjchplaaDoorRJ
namespace Go.Proofs.YtoodidokjchplaaDoor.Un
open Go Go.RowKit Go.Shelf
open Go.Proofs.YtoodidokjchplaaDoor.Wk (bcell bel_drew bel_drewN bel_alloc bel_set bel_call size_len blk_cell blk_below blk_lt mk_data cells_new)
set_option linter.unusedVariables false
set_option linter.unusedSimpArgs false
/-- One unit more: the cells of the clusters. -/
def stK (p : Option Int) (c : Int) (K : List Int) : List Int := if gluO p c = true then (if c = 10 then K.dropLast ++ [0] else K) else K ++ [celOf c]
def runK : Option Int → List Int → List (Int × Nat) → List Int
  | _, K, [] => K
  | p, K, (c, _) :: r => runK (some c) (stK p c K) r
theorem cls10 : clsOf 10 = 1 := by decide
theorem cls13 : clsOf 13 = 2 := by decide
theorem cel13 : celOf 13 = 2 := by decide
theorem runK_law : ∀ (U : List (Int × Nat)) (p : Option Int) (K : List Int), (p = some 13 → ∃ K', K = K' ++ [2]) →
    (runK p K U).length = K.length + nCl p U ∧ (runK p K U).sum = K.sum + xCl p U - (if p = some 13 ∧ lf U = true then 2 else 0)
  | [], p, K, h => by
    refine ⟨by simp [runK, nCl], ?_⟩
    rw [if_neg (by simp [lf])]
    simp [runK, xCl]
  | (c, n) :: r, p, K, h => by
    unfold runK nCl xCl stK
    by_cases g : gluO p c = true
    · rw [if_pos g, if_pos g, if_pos g]
      obtain ⟨u, rfl⟩ : ∃ u, p = some u := by
        cases p with
        | none => simp [gluO] at g
        | some u => exact ⟨u, rfl⟩
      have g' : glue u c = true := g
      unfold glue at g'
      by_cases hc : c = 10
      · subst hc
        have hu : u = 13 := by
          rw [cls10] at g'
          simpa using g'
        subst hu
        obtain ⟨K', rfl⟩ := h rfl
        rw [if_pos rfl]
        have ih := runK_law r (some 10) ((K' ++ [2]).dropLast ++ [0]) (fun e => by cases e)
        rw [if_neg (by rintro ⟨e, -⟩; cases e)] at ih
        rw [if_pos ⟨rfl, by simp [lf]⟩]
        rw [List.dropLast_concat] at ih ⊢
        refine ⟨by rw [ih.1]; simp, by rw [ih.2]; simp; omega⟩
      · rw [if_neg hc]
        have hc13 : c ≠ 13 := by
          rintro rfl
          rw [cls13] at g'
          simp at g'
        have ih := runK_law r (some c) K (fun e => by cases e; exact absurd rfl hc13)
        rw [if_neg (by rintro ⟨e, -⟩; cases e; exact hc13 rfl)] at ih
        rw [if_neg (by rintro ⟨-, e⟩; simp [lf] at e; exact hc e)]
        refine ⟨by rw [ih.1]; omega, by rw [ih.2]; omega⟩
    · rw [if_neg g, if_neg g, if_neg g]
      have ih := runK_law r (some c) (K ++ [celOf c]) (fun e => by cases e; exact ⟨K, by rw [cel13]⟩)
      have hp : ¬ (p = some 13 ∧ lf ((c, n) :: r) = true) := by
        rintro ⟨rfl, e⟩
        simp [lf] at e
        subst e
        exact g (by simp [gluO, glue])
      rw [if_neg hp]
      refine ⟨by rw [ih.1, List.length_append]; simp; omega, ?_⟩
      rw [ih.2, List.sum_append]
      by_cases q : c = 13 ∧ lf r = true
      · rw [if_pos q, if_pos ⟨by rw [q.1], q.2⟩, q.1, cel13]; simp; omega
      · rw [if_neg q, if_neg (by rintro ⟨e, e'⟩; cases e; exact q ⟨rfl, e'⟩)]; simp; omega
theorem runK_all (l : List UInt8) : (runK none [] (unitsOf l)).length = cC l ∧ (runK none [] (unitsOf l)).sum = cX l := by
  have h := runK_law (unitsOf l) none [] (fun e => by cases e)
  rw [if_neg (by rintro ⟨e, -⟩; cases e)] at h
  refine ⟨by rw [h.1]; simp; rfl, by rw [h.2]; simp; rfl⟩
def qc (q : Int × Int × Int × Int) : List Value := [.int .i64 q.1, .int .i64 q.2.1, .int .i64 q.2.2.1, .int .i64 q.2.2.2]
def flC (Q : List (Int × Int × Int × Int)) : List Value := Q.flatMap qc
theorem flC_snoc (Q : List (Int × Int × Int × Int)) (q : Int × Int × Int × Int) : flC (Q ++ [q]) = flC Q ++ qc q := by unfold flC; rw [List.flatMap_append]; simp
theorem flC_len : ∀ Q : List (Int × Int × Int × Int), (flC Q).length = Q.length * 4
  | [] => rfl
  | q :: r => by
    show (qc q ++ flC r).length = _
    rw [List.length_append, flC_len r, List.length_cons]
    show 4 + _ = _
    omega
theorem own_last {W : World} {B e n c : Nat} {A : Option Addr} {Q : List (Int × Int × Int × Int)} {q : Int × Int × Int × Int} (h : World.ownsRow W B e 4 (.slice A n c) n (flC (Q ++ [q]))) (hn : n = Q.length + 1) :
    ∃ g, A = some ⟨g, 0, none⟩ ∧ B ≤ g ∧ (∀ j, j < 4 → W.cell? ⟨g, Q.length * 4 + j, none⟩ = (qc q)[j]?) ∧ (∀ k, W.frozen? ⟨g, k, none⟩ = false) ∧ g < W.heap.size ∧
      (∀ u, World.ownsRow ((((W.setCell ⟨g, Q.length * 4, none⟩ (.int .i64 u.1)).setCell ⟨g, Q.length * 4 + 1, none⟩ (.int .i64 u.2.1)).setCell ⟨g, Q.length * 4 + 2, none⟩ (.int .i64 u.2.2.1)).setCell ⟨g, Q.length * 4 + 3, none⟩ (.int .i64 u.2.2.2)) B e 4 (.slice A n c) n (flC (Q ++ [u]))) := by
  rcases h.2 with ⟨h1, h0⟩ | ⟨g, cap, cur, h1, hg, hh, hc, hm, hsz, htk⟩
  · omega
  · simp only [Value.slice.injEq] at h1
    obtain ⟨rfl, -, rfl⟩ := h1
    refine ⟨g, rfl, hg, fun j hj => ?_, fun k => Wk.blk_frozen hh k, blk_lt hh, fun u => ⟨?_, .inr ⟨g, c, _, rfl, hg, Wk.blk_set (Wk.blk_set (Wk.blk_set (Wk.blk_set hh _ _) _ _) _ _) _ _, hc, hm, by simp [hsz], ?_⟩⟩⟩
    · rw [blk_cell hh]
      have e1 : (flC (Q ++ [q]))[Q.length * 4 + j]? = (qc q)[j]? := by
        rw [flC_snoc, List.getElem?_append_right (by rw [flC_len]; omega), flC_len]
        congr 1
        omega
      rw [← e1, ← htk, List.getElem?_take_of_lt (by omega), Array.getElem?_toList]
    · have := h.1
      rw [flC_len] at this ⊢
      simp at this ⊢
      omega
    · simp only [Array.toList_setIfInBounds, List.take_set, htk]
      rw [flC_snoc, flC_snoc]
      have e4 : Q.length * 4 = (flC Q).length := (flC_len Q).symm
      rw [e4]
      obtain ⟨q0, q1, q2, q3⟩ := q
      obtain ⟨u0, u1, u2, u3⟩ := u
      simp [qc, List.set_append_right]
theorem infoCl : (Tryd.prog.info? 62).map (fun i => (i.zero, i.size, i.bytes)) = some (some (.agg #[.int .i64 0, .int .i64 0, .int .i64 0, .int .i64 0]), 4, 32) := by kernel_rfl
end Go.Proofs.YtoodidokjchplaaDoor.Un
