/- The table of all keys behind each prefix: its loops in closed form. -/
import Derived.Test.YtgkaiagoogjibaaBkD
import Derived.Test.YtgkaiagoogjibaaPBindx17
namespace Go.Proofs.Ytgkaiagoogjibaa.Bk
open Go Go.RowKit Go.Proofs.Ytgkaiagoogjibaa.PBind Go.Proofs.YtgkaiagoogjibaaW.PrintWords Go.Proofs.YtgkaiagoogjibaaW.PrintLast Go.Proofs.YtgkaiagoogjibaaW.PrintMore

theorem commands_at {l : List S25} {k : Nat} (hl : l.length < 10000) (hk : l.length + 41 ≤ k) : bind_Commands.f k l = some (cmds st0 l) := by
  have h := commands l (by omega) (k - l.length - 41)
  rwa [show k - l.length - 41 + l.length + 41 = k by omega] at h
theorem ref_commands_at {l : List S25} {k : Nat} (hl : l.length < 10000) (hk : l.length + 41 ≤ k) : bodkinref19_Commands.f k l = some (cmds st0 l) := by
  have h := ref_commands l (by omega) (k - l.length - 41)
  rwa [show k - l.length - 41 + l.length + 41 = k by omega] at h
theorem same_at {l : List S36} {k : Nat} (hl : l.length < 10000) (hk : l.length + 1 ≤ k) : bodkinlaw19_sameCommands.f k l l = some true := by
  have h := same l (by omega) (k - l.length - 1)
  rwa [show k - l.length - 1 + l.length + 1 = k by omega] at h
theorem char_z : bodkinlaw19_char.f 122 false = some (1, 122, false, false, false, ⟨#[]⟩) := rfl

theorem l2_of (x0 : Int) (x3 : List (List S25)) (x4 x5 x6 : Int) (hs : List (List S25)) (hh : ∀ i, (rd_L8 hs i).length < 1000) (hn : hs.length < 1000) (a b : Int) (c d e : Bool) (f : ByteArray) :
    ∀ (n q : Nat) (i : Int), 0 ≤ i → i + n = (hs.length : Int) → 3000 ≤ q →
      bodkinlaw19_BindTable.l2 (q + n + 1) x0 x3 x4 x5 x6 hs (hs.length : Int) i a b c d e f = bodkinlaw19_BindTable.l1 q x0 x3 x4 x5 (wrap32 (x6 + 1)) := by
  intro n
  induction n with
  | zero =>
    intro q i h0 h1 hq
    rw [bodkinlaw19_BindTable.l2, if_neg (by omega)]
  | succ n ih =>
    intro q i h0 h1 hq
    have hl := hh i
    rw [show q + (n + 1) + 1 = (q + n + 1) + 1 by omega, bodkinlaw19_BindTable.l2, if_pos (by omega), if_pos h0, if_pos (by omega)]
    simp only [Option.bind_some, List.nil_append, List.length_nil]
    rw [if_pos (by omega)]
    simp only [char_z, Option.bind_some]
    rw [if_pos (by simp only [List.length_cons, List.length_nil]; omega)]
    have hK : (rd_L8 hs i ++ [(⟨a, b, c, d, e, f⟩ : S25), ⟨1, 122, false, false, false, ⟨#[]⟩⟩]).length < 1002 := by simp only [List.length_append, List.length_cons, List.length_nil]; omega
    have hC := cmds_len (rd_L8 hs i ++ [(⟨a, b, c, d, e, f⟩ : S25), ⟨1, 122, false, false, false, ⟨#[]⟩⟩]) st0
    rw [commands_at (by omega) (by omega), Option.bind_some, ref_commands_at (by omega) (by omega), Option.bind_some, same_at (by omega) (by omega), Option.bind_some, if_pos rfl, wrap64_id (by omega) (by omega)]
    exact ih q (i + 1) (by omega) (by omega) hq
theorem j4_of (x0 : Int) (x3 : List (List S25)) (x4 x5 x6 : Int) (hh : ∀ i, (rd_L8 x3 i).length < 1000) (hn : x3.length = 6) (x56 : Bool) (a b : Int) (c d e : Bool) (f : ByteArray) (q : Nat) (hq : 3000 ≤ q) :
    bodkinlaw19_BindTable.j4 (q + 9) x0 x3 x4 x5 x6 x56 a b c d e f = bodkinlaw19_BindTable.l1 q x0 x3 x4 x5 (wrap32 (x6 + 1)) := by
  have h : ∀ f, bodkinlaw19_BindTable.j5 (q + 8) x0 x3 x4 x5 x6 a b c d e f = bodkinlaw19_BindTable.l1 q x0 x3 x4 x5 (wrap32 (x6 + 1)) := by
    intro f
    rw [bodkinlaw19_BindTable.j5]
    exact l2_of x0 x3 x4 x5 x6 x3 hh (by omega) a b c d e f 6 q 0 (by omega) (by omega) hq
  rw [bodkinlaw19_BindTable.j4]
  split <;> exact h _
theorem l1_of (x0 : Int) (x3 : List (List S25)) (x4 x5 : Int) (hh : ∀ i, (rd_L8 x3 i).length < 1000) (hn : x3.length = 6) (h5 : x5 < 1000) :
    ∀ (n q : Nat) (x6 : Int), 0 ≤ x6 → x6 + n = x5 + 1 → 3000 ≤ q → bodkinlaw19_BindTable.l1 (q + 10 * n + 1) x0 x3 x4 x5 x6 = bodkinlaw19_BindTable.l0 q x0 x3 (wrap64 (x4 + 1)) := by
  intro n
  induction n with
  | zero =>
    intro q x6 h0 h1 hq
    rw [bodkinlaw19_BindTable.l1, if_neg (by omega)]
  | succ n ih =>
    intro q x6 h0 h1 hq
    rw [show q + 10 * (n + 1) + 1 = (q + 10 * n + 1 + 9) + 1 by omega, bodkinlaw19_BindTable.l1, if_pos (by omega)]
    have h := ih q (x6 + 1) (by omega) (by omega) hq
    split <;> rw [j4_of _ _ _ _ _ hh hn _ _ _ _ _ _ _ _ (by omega), wrap32_id (by omega) (by omega)] <;> exact h
theorem l0_of (x0 : Int) (x3 : List (List S25)) (hh : ∀ i, (rd_L8 x3 i).length < 1000) (hn : x3.length = 6) :
    ∀ (n m : Nat) (x4 : Int), 0 ≤ x4 → x4 + n = 20 → 3000 * n + 3010 ≤ m → bodkinlaw19_BindTable.l0 m x0 x3 x4 = some true := by
  intro n
  induction n with
  | zero =>
    intro m x4 h0 h1 hm
    obtain ⟨m, rfl⟩ : ∃ q, m = q + 1 := ⟨m - 1, by omega⟩
    rw [bodkinlaw19_BindTable.l0, if_neg (by omega)]
  | succ n ih =>
    intro m x4 h0 h1 hm
    have hj2 : ∀ x5 : Int, 0 ≤ x5 → x5 < 256 → bodkinlaw19_BindTable.j2 (m - 2) x0 x3 x4 x5 = some true := by
      intro x5 g0 g1
      rw [show m - 2 = (m - 4 - 10 * (x5.toNat + 1) + 10 * (x5.toNat + 1) + 1) + 1 by omega, bodkinlaw19_BindTable.j2]
      rw [l1_of x0 x3 x4 x5 hh hn (by omega) (x5.toNat + 1) _ 0 (by omega) (by omega) (by omega), wrap64_id (by omega) (by omega)]
      exact ih _ _ (by omega) (by omega) (by omega)
    have hj1 : ∀ b : Bool, bodkinlaw19_BindTable.j1 (m - 1) x0 x3 x4 1 b = some true := by
      intro b
      rw [show m - 1 = (m - 2) + 1 by omega, bodkinlaw19_BindTable.j1]
      split
      · exact hj2 255 (by omega) (by omega)
      · exact hj2 1 (by omega) (by omega)
    rw [show m = (m - 1) + 1 by omega, bodkinlaw19_BindTable.l0, if_pos (by omega)]
    split <;> exact hj1 _
end Go.Proofs.Ytgkaiagoogjibaa.Bk
