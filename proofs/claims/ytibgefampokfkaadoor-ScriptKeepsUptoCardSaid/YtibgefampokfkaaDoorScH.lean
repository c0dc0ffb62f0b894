/- The chapter's example, and every Read: in closed form. -/
import Derived.Test.YtibgefampokfkaaDoorScG
namespace Go.Proofs.YtibgefampokfkaaDoor.Sc
open Go Go.RowKit Go.Proofs.YtibgefampokfkaaDoor.Cut Go.Proofs.YtibgefampokfkaaDoor.PSc
open Go.Proofs.YtibgefampokfkaaDoorW.PrintWords (bt rdOf Kd)
open Go.Proofs.YtibgefampokfkaaDoor.Wk (size_len mk_data)
set_option linter.unusedVariables false
set_option linter.unusedSimpArgs false

theorem eqb37_self (a : Int) (b : ByteArray) (c d : Int) : eqb37 a a b b c c d d = true := by simp [eqb37]
theorem same_l0 (l : List S37) (hl : l.length ≤ 1000000000) (m : Nat) : ∀ (i d : Nat), i + m = l.length → bodkinlaw24_same.l0 (m + 1 + d) l l i = some true := by
  induction m with
  | zero =>
    intro i d h
    rw [show 0 + 1 + d = d + 1 from by omega, bodkinlaw24_same.l0, if_neg (by omega)]
  | succ m ih =>
    intro i d h
    rw [show m + 1 + 1 + d = (m + 1 + d) + 1 from by omega, bodkinlaw24_same.l0, if_pos (by omega), if_pos (by omega), if_pos (by omega), eqb37_self, if_pos rfl, wrap64_id (by omega) (by omega), show ((i : Int) + 1) = ((i + 1 : Nat) : Int) from by omega]
    exact ih (i + 1) d (by omega)
theorem same_self (l : List S37) (hl : l.length ≤ 1000000000) (k : Nat) (hk : l.length + 1 ≤ k) : bodkinlaw24_same.f k l l = some true := by
  have := same_l0 l hl l.length 0 (k - (l.length + 1)) (by omega)
  rw [show l.length + 1 + (k - (l.length + 1)) = k from by omega] at this
  rw [bodkinlaw24_same.f, if_pos rfl]
  exact this
theorem rdL_len (ls : List (List UInt8)) : ∀ (n : Int) (acc : List S37), (rdL n acc ls).1.length ≤ acc.length + ls.length := by
  induction ls with
  | nil => intro n acc; simp [rdL]
  | cons a r ih =>
    intro n acc
    rw [rdL]
    split
    · have := ih (n + 1) acc; simp only [List.length_cons]; omega
    · split
      · have := ih (n + 1) (acc ++ [evS a]); simp only [List.length_append, List.length_cons, List.length_nil] at *; omega
      · simp
theorem rd_len (l : List UInt8) : (rd l).1.length ≤ l.length := by
  have h1 := rdL_len (lines l) 1 []
  have h2 := (lines_len l).1
  unfold rd
  simp only [List.length_nil] at h1
  omega
theorem line7 : script_Line.f 2 ⟨#[120]⟩ 7 0 = some (⟨#[119, 105, 100, 116, 104, 32, 55]⟩, 0) := by
  have h : strconv_Itoa_28.f 7 = some ⟨#[55]⟩ := by
    unfold strconv_Itoa_28.f
    rw [if_pos (by omega)]
    rw [show (7 : Int).toNat = 7 from rfl, Lib.decDigits]
    simp
  unfold script_Line.f
  rw [if_neg (by omega), if_pos rfl, if_neg (by omega), if_neg (by omega), h]
  simp only [Option.bind_some]
  rw [if_pos (by simp [ByteArray.size])]
  rfl
theorem print7 : script_Print.f [(⟨2, (⟨#[120]⟩ : ByteArray), 7, 0⟩ : S37)] = some (⟨#[119, 105, 100, 116, 104, 32, 55, 10]⟩, 0) := by
  rw [script_Print.f, if_pos (by simp), script_Print.go, line7]
  simp only [Option.bind_some]
  rw [if_pos trivial, if_pos (by simp)]
  rfl
theorem rd1 : rd [116, 121, 112, 101, 32, 97, 92, 120, 48, 48, 92, 101, 91, 65, 10, 10, 35, 32, 120, 10, 119, 105, 100, 116, 104, 32, 56, 48, 10, 115, 116, 111, 114, 101, 32, 114, 111, 112, 101]
    = ([(⟨1, (⟨#[97, 0, 27, 91, 65]⟩ : ByteArray), 0, 0⟩ : S37), (⟨2, (⟨#[]⟩ : ByteArray), 80, 0⟩ : S37), (⟨3, (⟨#[]⟩ : ByteArray), 0, 2⟩ : S37)], 0, 0) := by kernel_rfl
theorem rd2 : rd [35, 32, 120, 10, 119, 105, 100, 116, 104, 32, 48, 56] = ([], 2, 14) := by kernel_rfl
theorem fixed_true (k : Nat) (hk : 200 ≤ k) : bodkinlaw24_fixed.f k = some true := by
  unfold bodkinlaw24_fixed.f
  have e0 : cluster_Next.f ⟨#[97]⟩ 0 = some 1 := by unfold cluster_Next.f; rw [if_pos ⟨rfl, rfl⟩]
  rw [e0]
  simp only [Option.bind_some]
  rw [if_pos trivial, readf' _ (by simp [ByteArray.size]) k (by simp [ByteArray.size]; omega)]
  simp only [Option.bind_some]
  rw [readf' _ (by simp [ByteArray.size]) k (by simp [ByteArray.size]; omega)]
  simp only [Option.bind_some]
  rw [print7]
  simp only [Option.bind_some]
  rw [show rd (⟨#[116, 121, 112, 101, 32, 97, 92, 120, 48, 48, 92, 101, 91, 65, 10, 10, 35, 32, 120, 10, 119, 105, 100, 116, 104, 32, 56, 48, 10, 115, 116, 111, 114, 101, 32, 114, 111, 112, 101]⟩ : ByteArray).data.toList = _ from rd1,
    show rd (⟨#[35, 32, 120, 10, 119, 105, 100, 116, 104, 32, 48, 56]⟩ : ByteArray).data.toList = _ from rd2, same_self _ (by simp) k (by simp; omega)]
  simp only [Option.bind_some]
  rw [if_pos trivial, if_pos trivial, if_pos trivial, if_pos trivial, if_pos trivial, if_pos (toB_toList _)]
  rfl
theorem rdOf_bytes (ls : List ByteArray) (i : Nat) (h : i < ls.length) : rdOf ByteArray.empty ls (i : Int) = ls[i] := by
  unfold rdOf
  rw [Int.toNat_natCast, List.getD_eq_getElem?_getD, List.getElem?_eq_getElem h]
  rfl
theorem reads_l0 (C : Nat) (hC : 300000000 ≤ C) (ls : List ByteArray) (hls : ls.length ≤ 1000000000) (hall : ∀ s ∈ ls, s.size ≤ 100000000) (m : Nat) : ∀ i d : Nat, i + m = ls.length → bodkinlaw24_ScriptReads.l0 (m + 1 + (C + d)) ls i = some true := by
  induction m with
  | zero =>
    intro i d h
    rw [show 0 + 1 + (C + d) = (C + d) + 1 from by omega, bodkinlaw24_ScriptReads.l0, if_neg (by omega)]
  | succ m ih =>
    intro i d h
    have hlt : i < ls.length := by omega
    have hs := hall _ (List.getElem_mem hlt)
    have hr := rd_len ls[i].data.toList
    rw [size_len] at hr
    rw [show m + 1 + 1 + (C + d) = (m + 1 + (C + d)) + 1 from by omega, bodkinlaw24_ScriptReads.l0, if_pos (by omega), if_pos (by omega), rdOf_bytes ls i hlt, readf' _ (by omega) _ (by omega), rreadf' _ (by omega) _ (by omega)]
    simp only [Option.bind_some]
    rw [same_self _ (by omega) _ (by omega)]
    simp only [Option.bind_some]
    rw [if_pos trivial, if_pos trivial, if_pos trivial, wrap64_id (by omega) (by omega), show ((i : Int) + 1) = ((i + 1 : Nat) : Int) from by omega]
    exact ih (i + 1) d (by omega)
theorem reads_true (ls : List ByteArray) (hls : ls.length ≤ 1000000000) (hall : ∀ s ∈ ls, s.size ≤ 100000000) : ∃ k, bodkinlaw24_ScriptReads.f k ls = some true := by
  obtain ⟨C, hC⟩ : ∃ C : Nat, 300000000 ≤ C := ⟨_, Nat.le_refl _⟩
  refine ⟨ls.length + 1 + (C + 0), ?_⟩
  rw [bodkinlaw24_ScriptReads.f, fixed_true _ (by omega)]
  simp only [Option.bind_some]
  rw [if_pos trivial]
  exact reads_l0 C hC ls hls hall ls.length 0 0 (by omega)
/-- EVERY READ: the law's walk. -/
theorem reads_calls (ls : List ByteArray) (hls : ls.length ≤ 1000000000) (hall : ∀ s ∈ ls, s.size ≤ 100000000) (A0 : Option Addr) (c0 : Nat) (w : World) (hr0 : Kd.C Kd.string w A0 ls.length ls) (hc0 : ls.length ≤ c0) :
    Calls Tryd.prog 3 #[.slice A0 ls.length c0] w fun e w' => e = .returned (.bool true) ∧ Below w.heap.size w w' :=
  let ⟨k, h⟩ := reads_true ls hls hall
  bodkinlaw24_ScriptReads.calls k A0 c0 ls true w hr0 hc0 h
end Go.Proofs.YtibgefampokfkaaDoor.Sc
