/- Itoa with its table, Line of both sides, the reference's Piece and decimal: walked. -/
import Derived.Test.YtibgefampokfkaaDoorScI
import Derived.StillTailTactics
import Derived.Lib.LaidTab
namespace Go.Proofs.YtibgefampokfkaaDoor.Sc
open Go Go.RowKit Go.Proofs.YtibgefampokfkaaDoor.Cut Go.Proofs.YtibgefampokfkaaDoor.PSc
open Go.Proofs.YtibgefampokfkaaDoorW.PrintWords (bt rdOf Kd Drawn0 Reps)
open Go.Proofs.YtibgefampokfkaaDoor.Wk (bcell bel_drew bel_alloc bel_set bel_call size_len mk_data blk_alloc blk_below blk_drewN blk_cell string_of_own own_slice own_below beq_true_i bne_true_i bne_false_i)
open Go.Proofs.YtibgefampokfkaaDoor.Wk (cells_new var_below)
set_option linter.unusedVariables false
set_option linter.unusedSimpArgs false

/-- The one table that Itoa reads. -/
def Tb (w : World) : Prop := Lib.TabIs Tryd.prog w "internal/strconv.uint64pow10" .u64 Lib.pow10Tab
theorem Tb.below {w W : World} (h : Tb w) (hb : Below w.heap.size w W) : Tb W := var_below (P := Tryd.prog) h hb
theorem below_grow (w : World) (k : Nat) (os : Array Obj) : Below w.heap.size w (Sort.grow (w.drewN k) os) :=
  ⟨rfl, rfl, rfl, by simp [Sort.grow, World.drewN], fun i hi => by
    show (w.heap ++ os)[i]? = w.heap[i]?
    rw [Array.getElem?_append_left hi]⟩
theorem itoa_calls (n : Nat) (hn : n ≤ 1000000000) (w : World) (hT : Tb w) :
    Calls Tryd.prog 28 #[.int .i64 n] w fun e w' => e = .returned (.string (toB (Lib.decDigits n))) ∧ Below w.heap.size w w' :=
  (Tryd.strconv_Itoa n (by omega) (by omega) w hT).mono (by
    rintro e w' ⟨rfl, k, os, rfl⟩
    refine ⟨?_, below_grow w k os⟩
    unfold Lib.itoa
    rw [if_neg (by omega), Int.toNat_natCast])

/-- An event's line. -/
def lineS (k : Int) (b : List UInt8) (n t : Int) : List UInt8 × Int :=
  if k = 1 then ([116, 121, 112, 101, 32] ++ piece b, 0)
  else if k = 2 then (if n < 1 ∨ 65535 < n then ([], 1) else ([119, 105, 100, 116, 104, 32] ++ Lib.decDigits n.toNat, 0))
  else if k = 3 then (if t = 1 then ([115, 116, 111, 114, 101, 32, 103, 97, 112], 0) else if t = 2 then ([115, 116, 111, 114, 101, 32, 114, 111, 112, 101], 0) else ([], 13))
  else ([], 13)
def lnV (k : Int) (b : ByteArray) (n t : Int) : Value := .tuple #[.string (toB (lineS k b.data.toList n t).1), .int .i64 (lineS k b.data.toList n t).2]
theorem ret_ln {k : Int} {b : ByteArray} {n t : Int} {l : List UInt8} {e : Int} (h : lineS k b.data.toList n t = (l, e)) : Ending.returned (.tuple #[.string (toB l), .int .i64 e]) = .returned (lnV k b n t) := by unfold lnV; rw [h]
theorem add_toB (a : List UInt8) (b : List UInt8) : (⟨a.toArray⟩ : ByteArray) ++ toB b = toB (a ++ b) := by
  rw [← toB_of (_ ++ _), ByteArray.data_append, Array.toList_append]
theorem ls1 (b : List UInt8) (n t : Int) : lineS 1 b n t = ([116, 121, 112, 101, 32] ++ piece b, 0) := if_pos rfl
theorem ls2a (b : List UInt8) {n : Int} (t : Int) (h : n < 1 ∨ 65535 < n) : lineS 2 b n t = ([], 1) := by unfold lineS; rw [if_neg (by decide), if_pos rfl, if_pos h]
theorem ls2b (b : List UInt8) {n : Int} (t : Int) (h : ¬ (n < 1 ∨ 65535 < n)) : lineS 2 b n t = ([119, 105, 100, 116, 104, 32] ++ Lib.decDigits n.toNat, 0) := by unfold lineS; rw [if_neg (by decide), if_pos rfl, if_neg h]
theorem ls3a (b : List UInt8) (n : Int) : lineS 3 b n 1 = ([115, 116, 111, 114, 101, 32, 103, 97, 112], 0) := by unfold lineS; rw [if_neg (by decide), if_neg (by decide), if_pos rfl, if_pos rfl]
theorem ls3b (b : List UInt8) (n : Int) : lineS 3 b n 2 = ([115, 116, 111, 114, 101, 32, 114, 111, 112, 101], 0) := by unfold lineS; rw [if_neg (by decide), if_neg (by decide), if_pos rfl, if_neg (by decide), if_pos rfl]
theorem ls3c (b : List UInt8) (n : Int) {t : Int} (h1 : t ≠ 1) (h2 : t ≠ 2) : lineS 3 b n t = ([], 13) := by unfold lineS; rw [if_neg (by decide), if_neg (by decide), if_pos rfl, if_neg h1, if_neg h2]
theorem ls4 {k : Int} (b : List UInt8) (n t : Int) (h1 : k ≠ 1) (h2 : k ≠ 2) (h3 : k ≠ 3) : lineS k b n t = ([], 13) := by unfold lineS; rw [if_neg h1, if_neg h2, if_neg h3]
theorem ret_ln' {k : Int} {b : ByteArray} {n t : Int} {l : List UInt8} {e : Int} {X : ByteArray} (h : lineS k b.data.toList n t = (l, e)) (hX : X = toB l) : Ending.returned (.tuple #[.string X, .int .i64 e]) = .returned (lnV k b n t) := by rw [hX]; exact ret_ln h
theorem dec_small (n : Nat) (h : n ≤ 100000) : (Lib.decDigits n).length ≤ 20 := by
  have : ∀ (m n : Nat), n < 10 ^ (m + 1) → (Lib.decDigits n).length ≤ m + 1 := by
    intro m
    induction m with
    | zero => intro n hn; rw [Lib.decDigits, dif_pos (by omega)]; simp
    | succ m ih =>
      intro n hn
      rw [Lib.decDigits]
      split
      · simp
      · have := ih (n / 10) (by rw [Nat.pow_succ] at hn; omega)
        simp only [List.length_append, List.length_cons, List.length_nil]; omega
  have := this 5 n (by omega)
  omega

set_option maxHeartbeats 4000000 in
set_option maxRecDepth 100000 in
theorem line_calls (k : Int) (b : ByteArray) (n t : Int) (w : World) (hT : Tb w) (hb : b.size ≤ 100000000) :
    Calls Tryd.prog 17 #[.agg #[.int .i64 k, .string b, .int .i64 n, .int .i64 t]] w fun e w' => e = .returned (lnV k b n t) ∧ Below w.heap.size w w' := by
  have hpl : Hid ((piece b.data.toList).length ≤ 400000000) := (by have := piece_len b.data.toList; rw [size_len] at this; omega : (piece b.data.toList).length ≤ 400000000)
  by_cases h1 : k = 1
  · subst h1
    obtain ⟨P, hP⟩ : ∃ P : ByteArray, piece b.data.toList = P.data.toList := ⟨toB (piece b.data.toList), by simp⟩
    have HP := Lib.hid hP
    have hPs : P.size ≤ 400000000 := by have := hpl.out; rw [hP, size_len] at this; exact this
    have hR : Hid ((⟨#[116, 121, 112, 101, 32]⟩ : ByteArray) ++ P = toB ([116, 121, 112, 101, 32] ++ piece b.data.toList)) := by
      show _ = _
      rw [hP, ← add_toB, toB_of]
    clear hP
    go_enter Tryd.func17, Tryd.ntmps17
    go_wp2_with (go_at_call 15; refine (piece_as HP.out _ (by omega)).mono ?_; rintro e w2 ⟨rfl, hb1⟩)
    go_ret2
    exact ⟨ret_ln' (ls1 _ _ _) hR.out, bel_call (bel_alloc (Below.refl _ _) _) hb1⟩
  have q1 : (k == 1) = false := beq_false_i h1
  by_cases h2 : k = 2
  · subst h2
    by_cases h3 : n < 1 ∨ 65535 < n
    · have H := Lib.hid (ls2a b.data.toList t h3)
      rcases h3 with h3 | h3
      · go_enter Tryd.func17, Tryd.ntmps17
        go_wp2
        go_ret2
        exact ⟨ret_ln H.out, bel_alloc (Below.refl _ _) _⟩
      · have h4 : ¬ n < 1 := by omega
        go_enter Tryd.func17, Tryd.ntmps17
        go_wp2
        go_ret2
        exact ⟨ret_ln H.out, bel_alloc (Below.refl _ _) _⟩
    · have H := Lib.hid (ls2b b.data.toList t h3)
      have h3a : 1 ≤ n := by omega
      have h3b : n ≤ 65535 := by omega
      obtain ⟨m, rfl⟩ : ∃ m : Nat, n = m := ⟨n.toNat, by omega⟩
      rw [Int.toNat_natCast] at H
      obtain ⟨P, hP⟩ : ∃ P : ByteArray, toB (Lib.decDigits m) = P := ⟨_, rfl⟩
      have hPs : P.size ≤ 20 := by rw [← hP, toB_size]; exact dec_small m (by omega)
      have hR : Hid ((⟨#[119, 105, 100, 116, 104, 32]⟩ : ByteArray) ++ P = toB ([119, 105, 100, 116, 104, 32] ++ Lib.decDigits m)) := by
        show _ = _
        rw [← hP, ← add_toB]
      have HI := fun W hT => itoa_calls m (by omega) W hT
      rw [hP] at HI
      replace HI := Lib.hid HI
      replace hT := Lib.hid hT
      clear h3 hP
      go_enter Tryd.func17, Tryd.ntmps17
      go_wp2_with (go_at_call 28; refine (HI.out _ (Tb.below hT.out (bel_alloc (Below.refl _ _) _))).mono ?_; rintro e w2 ⟨rfl, hb1⟩)
      go_ret2
      exact ⟨ret_ln' H.out hR.out, bel_call (bel_alloc (Below.refl _ _) _) hb1⟩
  have q2 : (k == 2) = false := beq_false_i h2
  by_cases h3 : k = 3
  · subst h3
    by_cases t1 : t = 1
    · subst t1
      go_enter Tryd.func17, Tryd.ntmps17
      go_wp2
      go_ret2
      exact ⟨ret_ln (ls3a _ _), bel_alloc (Below.refl _ _) _⟩
    have p1 : (t == 1) = false := beq_false_i t1
    by_cases t2 : t = 2
    · subst t2
      go_enter Tryd.func17, Tryd.ntmps17
      go_wp2
      go_ret2
      exact ⟨ret_ln (ls3b _ _), bel_alloc (Below.refl _ _) _⟩
    have p2 : (t == 2) = false := beq_false_i t2
    have H := Lib.hid (ls3c b.data.toList n t1 t2)
    clear t1 t2
    go_enter Tryd.func17, Tryd.ntmps17
    go_wp2
    go_ret2
    exact ⟨ret_ln H.out, bel_alloc (Below.refl _ _) _⟩
  have q3 : (k == 3) = false := beq_false_i h3
  have H := Lib.hid (ls4 b.data.toList n t h1 h2 h3)
  clear h1 h2 h3
  go_enter Tryd.func17, Tryd.ntmps17
  go_wp2
  go_ret2
  exact ⟨ret_ln H.out, bel_alloc (Below.refl _ _) _⟩
end Go.Proofs.YtibgefampokfkaaDoor.Sc
