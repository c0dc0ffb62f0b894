/- script.event: walked. -/
import Derived.Test.YtibgefampokfkaaDoorScC
import Derived.Test.YtibgefampokfkaaDoorCut
import Derived.Laws.Rows
import Derived.Test.YtibgefampokfkaaDoorWk
namespace Go.Proofs.YtibgefampokfkaaDoor.Sc
open Go Go.RowKit Go.Proofs.YtibgefampokfkaaDoor.Cut
open Go.Proofs.YtibgefampokfkaaDoor.Wk (bcell bel_drew bel_alloc bel_set bel_call list_beq list_bne)
set_option linter.unusedVariables false

/-- A line's event. -/
def evt (l : List UInt8) : Int × List UInt8 × Int × Int × Bool :=
  if (cut1 32 l).2.2 = true then
    if (cut1 32 l).1 = [116, 121, 112, 101] then (1, (unpR (cut1 32 l).2.1).1, 0, 0, (unpR (cut1 32 l).2.1).2)
    else if (cut1 32 l).1 = [119, 105, 100, 116, 104] then (2, [], ((wid (cut1 32 l).2.1).1 : Int), 0, (wid (cut1 32 l).2.1).2)
    else if (cut1 32 l).1 = [115, 116, 111, 114, 101] then
      if (cut1 32 l).2.1 = [103, 97, 112] then (3, [], 0, 1, true) else if (cut1 32 l).2.1 = [114, 111, 112, 101] then (3, [], 0, 2, true) else (0, [], 0, 0, false)
    else (0, [], 0, 0, false)
  else (0, [], 0, 0, false)
theorem cut_as {s A B : ByteArray} {b : Bool} (h : cut1 32 s.data.toList = (A.data.toList, B.data.toList, b)) (w : World) (hs : s.size ≤ 1000000000) :
    Calls Tryd.prog 21 #[.string s, .string ⟨#[32]⟩] w fun e w' => e = .returned (.tuple #[.string A, .string B, .bool b]) ∧ ∃ n, w' = w.drewN n :=
  (cut_calls s 32 w (by omega)).mono (by rintro e w' ⟨rfl, hn⟩; exact ⟨by rw [h], hn⟩)
theorem cut1_len (c : UInt8) : ∀ l : List UInt8, (cut1 c l).1.length + (cut1 c l).2.1.length ≤ l.length
  | [] => by simp [cut1]
  | x :: r => by
    have := cut1_len c r
    simp only [cut1]; split
    · simp
    · simp only [List.length_cons]; omega
/-- .. of the line's two parts. -/
def evtAB (A B : ByteArray) (b : Bool) : Int × List UInt8 × Int × Int × Bool :=
  if b = true then (if A.toList = [116, 121, 112, 101] then (1, (unpR B.data.toList).1, 0, 0, (unpR B.data.toList).2)
    else if A.toList = [119, 105, 100, 116, 104] then (2, [], ((wid B.data.toList).1 : Int), 0, (wid B.data.toList).2)
    else if A.toList = [115, 116, 111, 114, 101] then
      if B.toList = [103, 97, 112] then (3, [], 0, 1, true) else if B.toList = [114, 111, 112, 101] then (3, [], 0, 2, true) else (0, [], 0, 0, false)
    else (0, [], 0, 0, false)) else (0, [], 0, 0, false)
theorem evt_AB {l : List UInt8} {A B : ByteArray} {b : Bool} (h : cut1 32 l = (A.data.toList, B.data.toList, b)) : evt l = evtAB A B b := by
  unfold evt evtAB
  rw [h, Lib.toList_data, Lib.toList_data]
theorem ab_no (A B : ByteArray) : evtAB A B false = (0, [], 0, 0, false) := if_neg (by simp)
theorem ab_type {A : ByteArray} (B : ByteArray) (h : (A.toList == [116, 121, 112, 101]) = true) : evtAB A B true = (1, (unpR B.data.toList).1, 0, 0, (unpR B.data.toList).2) := by
  unfold evtAB; rw [if_pos rfl, if_pos (list_beq h)]
theorem ab_width {A : ByteArray} (B : ByteArray) (h1 : (A.toList == [116, 121, 112, 101]) = false) (h : (A.toList == [119, 105, 100, 116, 104]) = true) : evtAB A B true = (2, [], ((wid B.data.toList).1 : Int), 0, (wid B.data.toList).2) := by
  unfold evtAB; rw [if_pos rfl, if_neg (list_bne h1), if_pos (list_beq h)]
theorem ab_gap {A B : ByteArray} (h1 : (A.toList == [116, 121, 112, 101]) = false) (h2 : (A.toList == [119, 105, 100, 116, 104]) = false) (h : (A.toList == [115, 116, 111, 114, 101]) = true) (h3 : (B.toList == [103, 97, 112]) = true) : evtAB A B true = (3, [], 0, 1, true) := by
  unfold evtAB; rw [if_pos rfl, if_neg (list_bne h1), if_neg (list_bne h2), if_pos (list_beq h), if_pos (list_beq h3)]
theorem ab_rope {A B : ByteArray} (h1 : (A.toList == [116, 121, 112, 101]) = false) (h2 : (A.toList == [119, 105, 100, 116, 104]) = false) (h : (A.toList == [115, 116, 111, 114, 101]) = true) (h3 : (B.toList == [103, 97, 112]) = false) (h4 : (B.toList == [114, 111, 112, 101]) = true) : evtAB A B true = (3, [], 0, 2, true) := by
  unfold evtAB; rw [if_pos rfl, if_neg (list_bne h1), if_neg (list_bne h2), if_pos (list_beq h), if_neg (list_bne h3), if_pos (list_beq h4)]
theorem ab_store {A B : ByteArray} (h1 : (A.toList == [116, 121, 112, 101]) = false) (h2 : (A.toList == [119, 105, 100, 116, 104]) = false) (h : (A.toList == [115, 116, 111, 114, 101]) = true) (h3 : (B.toList == [103, 97, 112]) = false) (h4 : (B.toList == [114, 111, 112, 101]) = false) : evtAB A B true = (0, [], 0, 0, false) := by
  unfold evtAB; rw [if_pos rfl, if_neg (list_bne h1), if_neg (list_bne h2), if_pos (list_beq h), if_neg (list_bne h3), if_neg (list_bne h4)]
theorem ab_other {A B : ByteArray} (h1 : (A.toList == [116, 121, 112, 101]) = false) (h2 : (A.toList == [119, 105, 100, 116, 104]) = false) (h : (A.toList == [115, 116, 111, 114, 101]) = false) : evtAB A B true = (0, [], 0, 0, false) := by
  unfold evtAB; rw [if_pos rfl, if_neg (list_bne h1), if_neg (list_bne h2), if_neg (list_bne h)]

def evR (l : List UInt8) : Value := .tuple #[.agg #[.int .i64 (evt l).1, .string ⟨(evt l).2.1.toArray⟩, .int .i64 (evt l).2.2.1, .int .i64 (evt l).2.2.2.1], .bool (evt l).2.2.2.2]
theorem evR_of {l : List UInt8} {k n t : Int} {b : List UInt8} {ok : Bool} (h : evt l = (k, b, n, t, ok)) : evR l = .tuple #[.agg #[.int .i64 k, .string ⟨b.toArray⟩, .int .i64 n, .int .i64 t], .bool ok] := by unfold evR; rw [h]

set_option maxHeartbeats 2000000 in
set_option maxRecDepth 100000 in
theorem event_calls (s : ByteArray) (w : World) (hs : s.size ≤ 1000000000) :
    Calls Tryd.prog 22 #[.string s] w fun e w' => e = .returned (evR s.data.toList) ∧ Below w.heap.size w w' := by
  obtain ⟨A, hA⟩ : ∃ A : ByteArray, A.data.toList = (cut1 32 s.data.toList).1 := ⟨⟨(cut1 32 s.data.toList).1.toArray⟩, rfl⟩
  obtain ⟨B, hB⟩ : ∃ B : ByteArray, B.data.toList = (cut1 32 s.data.toList).2.1 := ⟨⟨(cut1 32 s.data.toList).2.1.toArray⟩, rfl⟩
  obtain ⟨b, hb⟩ : ∃ b : Bool, b = (cut1 32 s.data.toList).2.2 := ⟨_, rfl⟩
  have hcut : cut1 32 s.data.toList = (A.data.toList, B.data.toList, b) := by rw [hA, hB, hb]
  have hBs : B.size ≤ 1000000000 := by
    have := cut1_len 32 s.data.toList
    rw [← hB] at this
    simp at this
    omega
  have HC := fun W => cut_as hcut W hs
  replace HC := Lib.hid HC
  have HE : Hid (evt s.data.toList = evtAB A B b) := evt_AB hcut
  clear hA hB hb hcut
  cases b
  · go_enter Tryd.func22, Tryd.ntmps22
    go_wp2_with (first | (go_at_call 21; refine (HC.out _).mono ?_; rintro e wz ⟨rfl, n, rfl⟩))
    refine bodyPost_ret (v := .tuple #[.agg #[.int .i64 0, .string ⟨#[]⟩, .int .i64 0, .int .i64 0], .bool false]) (by simp [results, Tryd.results22, go_sem]) rfl ⟨?_, ?_⟩
    · rw [evR_of (HE.out.trans (ab_no A B))]
    · repeat (with_reducible first | refine bel_drewN ?_ _ | refine bel_alloc ?_ _ | refine bel_set ?_ (Nat.le_refl _) _ | exact Below.refl _ _)
  · go_enter Tryd.func22, Tryd.ntmps22
    go_wp2_with (first
      | (go_at_call 21; refine (HC.out _).mono ?_; rintro e wz ⟨rfl, n, rfl⟩)
      | (go_at_call 33; refine (unpiece_calls B _ hBs).mono ?_; rintro e wz ⟨rfl, hb⟩; obtain ⟨hc, hf⟩ := bcell hb)
      | (go_at_call 34; refine (width_calls B _ hBs).mono ?_; rintro e wz ⟨rfl, hb⟩; obtain ⟨hc, hf⟩ := bcell hb))
    · refine bodyPost_ret (v := .tuple #[.agg #[.int .i64 1, .string ⟨(unpR B.data.toList).1.toArray⟩, .int .i64 0, .int .i64 0], .bool (unpR B.data.toList).2]) (by simp [results, Tryd.results22, go_sem, hc]) rfl ⟨?_, ?_⟩
      · rw [evR_of (HE.out.trans (ab_type B (by assumption)))]
      · repeat (with_reducible first | refine bel_call ?_ hb | refine bel_drewN ?_ _ | refine bel_alloc ?_ _ | refine bel_set ?_ (Nat.le_refl _) _ | exact Below.refl _ _)
    · refine bodyPost_ret (v := .tuple #[.agg #[.int .i64 2, .string ⟨#[]⟩, .int .i64 (wid B.data.toList).1, .int .i64 0], .bool (wid B.data.toList).2]) (by simp [results, Tryd.results22, go_sem, hc]) rfl ⟨?_, ?_⟩
      · rw [evR_of (HE.out.trans (ab_width B (by assumption) (by assumption)))]
      · repeat (with_reducible first | refine bel_call ?_ hb | refine bel_drewN ?_ _ | refine bel_alloc ?_ _ | refine bel_set ?_ (Nat.le_refl _) _ | exact Below.refl _ _)
    · refine bodyPost_ret (v := .tuple #[.agg #[.int .i64 3, .string ⟨#[]⟩, .int .i64 0, .int .i64 1], .bool true]) (by simp [results, Tryd.results22, go_sem]) rfl ⟨?_, ?_⟩
      · rw [evR_of (HE.out.trans (ab_gap (by assumption) (by assumption) (by assumption) (by assumption)))]
      · repeat (with_reducible first | refine bel_drewN ?_ _ | refine bel_alloc ?_ _ | refine bel_set ?_ (Nat.le_refl _) _ | exact Below.refl _ _)
    · refine bodyPost_ret (v := .tuple #[.agg #[.int .i64 3, .string ⟨#[]⟩, .int .i64 0, .int .i64 2], .bool true]) (by simp [results, Tryd.results22, go_sem]) rfl ⟨?_, ?_⟩
      · rw [evR_of (HE.out.trans (ab_rope (by assumption) (by assumption) (by assumption) (by assumption) (by assumption)))]
      · repeat (with_reducible first | refine bel_drewN ?_ _ | refine bel_alloc ?_ _ | refine bel_set ?_ (Nat.le_refl _) _ | exact Below.refl _ _)
    · refine bodyPost_ret (v := .tuple #[.agg #[.int .i64 0, .string ⟨#[]⟩, .int .i64 0, .int .i64 0], .bool false]) (by simp [results, Tryd.results22, go_sem]) rfl ⟨?_, ?_⟩
      · rw [evR_of (HE.out.trans (ab_store (by assumption) (by assumption) (by assumption) (by assumption) (by assumption)))]
      · repeat (with_reducible first | refine bel_drewN ?_ _ | refine bel_alloc ?_ _ | refine bel_set ?_ (Nat.le_refl _) _ | exact Below.refl _ _)
    · refine bodyPost_ret (v := .tuple #[.agg #[.int .i64 0, .string ⟨#[]⟩, .int .i64 0, .int .i64 0], .bool false]) (by simp [results, Tryd.results22, go_sem]) rfl ⟨?_, ?_⟩
      · rw [evR_of (HE.out.trans (ab_other (by assumption) (by assumption) (by assumption)))]
      · repeat (with_reducible first | refine bel_drewN ?_ _ | refine bel_alloc ?_ _ | refine bel_set ?_ (Nat.le_refl _) _ | exact Below.refl _ _)
end Go.Proofs.YtibgefampokfkaaDoor.Sc
