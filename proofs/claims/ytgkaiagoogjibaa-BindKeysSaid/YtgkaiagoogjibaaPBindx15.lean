-- written by pp.py of this session's wip: the kit's print, turned in a few places, over this claim's program
import Derived.Test.YtgkaiagoogjibaaPBindx0
namespace Go.Proofs.Ytgkaiagoogjibaa.PBind
open Go.RowKit Go.Proofs.YtgkaiagoogjibaaW.PrintWords Go.Proofs.YtgkaiagoogjibaaW.PrintLast Go.Proofs.YtgkaiagoogjibaaW.PrintMore
open Go.Proofs.YtgkaiagoogjibaaW.PrintWords renaming blk_drewN → bkN, blk_drew → bkD, blk_alloc → bkA, below_alloc → bwA, pw_below_drewN → bwN, below_drew1 → bwD, below_size → bwZ
open Go.Proofs.YtgkaiagoogjibaaW.PrintWords.Aside0 renaming mk → aM
attribute [local go_sem] max2_int min2_int max_two min_two max_three min_three max_four min_four   -- for this text's walks alone
set_option linter.unusedVariables false
set_option linter.unusedSimpArgs false

/-! ### bodkinref19_second: function 41 -/
mutual
def bodkinref19_second.j0 : Nat → ByteArray → Bool → Int → Int → Bool → Bool → Bool → ByteArray → Option (Int × Int × ByteArray × Int)
  | 0, _, _, _, _, _, _, _, _ => none
  | k + 1, x0, x19, x374000, x374001, x374002, x374003, x374004, x374005 => if x19 = true then (some (37, 0, (⟨#[]⟩ : ByteArray), 0)) else (if x374000 = 1 then (if x374002 = true then (bodkinref19_second.j1 k x0 false x374000 x374001 x374002 x374003 x374004 x374005) else (bodkinref19_second.j1 k x0 (!x374003) x374000 x374001 x374002 x374003 x374004 x374005)) else (bodkinref19_second.j1 k x0 false x374000 x374001 x374002 x374003 x374004 x374005))
def bodkinref19_second.j1 : Nat → ByteArray → Bool → Int → Int → Bool → Bool → Bool → ByteArray → Option (Int × Int × ByteArray × Int)
  | 0, _, _, _, _, _, _, _, _ => none
  | k + 1, x0, x5, x374000, x374001, x374002, x374003, x374004, x374005 => if x5 = true then (if x374001 = 64 then (bodkinref19_second.j2 k x0 x5 true x374000 x374001 x374002 x374003 x374004 x374005) else (if x374001 ≥ 97 then (bodkinref19_second.j2 k x0 x5 (decide (x374001 ≤ 122)) x374000 x374001 x374002 x374003 x374004 x374005) else (bodkinref19_second.j2 k x0 x5 false x374000 x374001 x374002 x374003 x374004 x374005))) else (bodkinref19_second.j2 k x0 x5 false x374000 x374001 x374002 x374003 x374004 x374005)
def bodkinref19_second.j2 : Nat → ByteArray → Bool → Bool → Int → Int → Bool → Bool → Bool → ByteArray → Option (Int × Int × ByteArray × Int)
  | 0, _, _, _, _, _, _, _, _, _ => none
  | k + 1, x0, x5, x6, x374000, x374001, x374002, x374003, x374004, x374005 => if x0.toList = ([109] : List UInt8) then (bodkinref19_second.j3 k x0 x5 x6 x6 x374000 x374001 x374002 x374003 x374004 x374005) else (bodkinref19_second.j3 k x0 x5 x6 false x374000 x374001 x374002 x374003 x374004 x374005)
def bodkinref19_second.j3 : Nat → ByteArray → Bool → Bool → Bool → Int → Int → Bool → Bool → Bool → ByteArray → Option (Int × Int × ByteArray × Int)
  | 0, _, _, _, _, _, _, _, _, _, _ => none
  | k + 1, x0, x5, x6, x50, x374000, x374001, x374002, x374003, x374004, x374005 => if x50 = true then (some (29, 0, (⟨#[]⟩ : ByteArray), (x374001) % 256)) else (if x0.toList = ([39] : List UInt8) then (bodkinref19_second.j4 k x0 x5 x6 x374000 x374001 x374002 x374003 x374004 x374005) else (bodkinref19_second.j4 k x0 x5 false x374000 x374001 x374002 x374003 x374004 x374005))
def bodkinref19_second.j4 : Nat → ByteArray → Bool → Bool → Int → Int → Bool → Bool → Bool → ByteArray → Option (Int × Int × ByteArray × Int)
  | 0, _, _, _, _, _, _, _, _, _ => none
  | k + 1, x0, x5, x60, x374000, x374001, x374002, x374003, x374004, x374005 => if x60 = true then (some (30, 0, (⟨#[]⟩ : ByteArray), (x374001) % 256)) else (if x0.toList = ([120] : List UInt8) then (if x374000 = 2 then (if x374003 = true then (bodkinref19_second.j5 k x0 x5 false x374000 x374001 x374002 x374003 x374004 x374005) else (bodkinref19_second.j5 k x0 x5 (x374001 == 88) x374000 x374001 x374002 x374003 x374004 x374005)) else (bodkinref19_second.j5 k x0 x5 false x374000 x374001 x374002 x374003 x374004 x374005)) else (bodkinref19_second.j5 k x0 x5 false x374000 x374001 x374002 x374003 x374004 x374005))
def bodkinref19_second.j5 : Nat → ByteArray → Bool → Bool → Int → Int → Bool → Bool → Bool → ByteArray → Option (Int × Int × ByteArray × Int)
  | 0, _, _, _, _, _, _, _, _, _ => none
  | k + 1, x0, x5, x70, x374000, x374001, x374002, x374003, x374004, x374005 => if x70 = true then (some (31, 0, (⟨#[]⟩ : ByteArray), 0)) else (if x0.toList = ([120] : List UInt8) then (if x5 = true then (bodkinref19_second.j6 k x0 x5 (x374001 == 117) x374000 x374001 x374002 x374003 x374004 x374005) else (bodkinref19_second.j6 k x0 x5 false x374000 x374001 x374002 x374003 x374004 x374005)) else (bodkinref19_second.j6 k x0 x5 false x374000 x374001 x374002 x374003 x374004 x374005))
def bodkinref19_second.j6 : Nat → ByteArray → Bool → Bool → Int → Int → Bool → Bool → Bool → ByteArray → Option (Int × Int × ByteArray × Int)
  | 0, _, _, _, _, _, _, _, _, _ => none
  | k + 1, x0, x5, x89, x374000, x374001, x374002, x374003, x374004, x374005 => if x89 = true then (some (32, 0, (⟨#[]⟩ : ByteArray), 0)) else (if x0.toList = ([120] : List UInt8) then (if x5 = true then (if x374001 = 114 then (some (33, 0, (⟨#[]⟩ : ByteArray), 0)) else (some (40, 0, (⟨#[]⟩ : ByteArray), 0))) else (some (40, 0, (⟨#[]⟩ : ByteArray), 0))) else (some (40, 0, (⟨#[]⟩ : ByteArray), 0)))
end
def bodkinref19_second.f (k : Nat) (a0 : ByteArray) (a1_0 : Int) (a1_1 : Int) (a1_2 : Bool) (a1_3 : Bool) (a1_4 : Bool) (a1_5 : ByteArray) : Option (Int × Int × ByteArray × Int) := if a1_0 = 2 then (if a1_3 = true then (bodkinref19_second.j0 k a0 false a1_0 a1_1 a1_2 a1_3 a1_4 a1_5) else (bodkinref19_second.j0 k a0 (a1_1 == 71) a1_0 a1_1 a1_2 a1_3 a1_4 a1_5)) else (bodkinref19_second.j0 k a0 false a1_0 a1_1 a1_2 a1_3 a1_4 a1_5)
theorem bodkinref19_second.mono_l : ∀ k, (∀ y0 y1 y2 y3 y4 y5 y6 y7, LeO (bodkinref19_second.j0 k y0 y1 y2 y3 y4 y5 y6 y7) (bodkinref19_second.j0 (k + 1) y0 y1 y2 y3 y4 y5 y6 y7)) ∧ (∀ y0 y1 y2 y3 y4 y5 y6 y7, LeO (bodkinref19_second.j1 k y0 y1 y2 y3 y4 y5 y6 y7) (bodkinref19_second.j1 (k + 1) y0 y1 y2 y3 y4 y5 y6 y7)) ∧ (∀ y0 y1 y2 y3 y4 y5 y6 y7 y8, LeO (bodkinref19_second.j2 k y0 y1 y2 y3 y4 y5 y6 y7 y8) (bodkinref19_second.j2 (k + 1) y0 y1 y2 y3 y4 y5 y6 y7 y8)) ∧ (∀ y0 y1 y2 y3 y4 y5 y6 y7 y8 y9, LeO (bodkinref19_second.j3 k y0 y1 y2 y3 y4 y5 y6 y7 y8 y9) (bodkinref19_second.j3 (k + 1) y0 y1 y2 y3 y4 y5 y6 y7 y8 y9)) ∧ (∀ y0 y1 y2 y3 y4 y5 y6 y7 y8, LeO (bodkinref19_second.j4 k y0 y1 y2 y3 y4 y5 y6 y7 y8) (bodkinref19_second.j4 (k + 1) y0 y1 y2 y3 y4 y5 y6 y7 y8)) ∧ (∀ y0 y1 y2 y3 y4 y5 y6 y7 y8, LeO (bodkinref19_second.j5 k y0 y1 y2 y3 y4 y5 y6 y7 y8) (bodkinref19_second.j5 (k + 1) y0 y1 y2 y3 y4 y5 y6 y7 y8)) ∧ (∀ y0 y1 y2 y3 y4 y5 y6 y7 y8, LeO (bodkinref19_second.j6 k y0 y1 y2 y3 y4 y5 y6 y7 y8) (bodkinref19_second.j6 (k + 1) y0 y1 y2 y3 y4 y5 y6 y7 y8))
  | 0 => ⟨fun _ _ _ _ _ _ _ _ r h => by simp [bodkinref19_second.j0] at h, fun _ _ _ _ _ _ _ _ r h => by simp [bodkinref19_second.j1] at h, fun _ _ _ _ _ _ _ _ _ r h => by simp [bodkinref19_second.j2] at h, fun _ _ _ _ _ _ _ _ _ _ r h => by simp [bodkinref19_second.j3] at h, fun _ _ _ _ _ _ _ _ _ r h => by simp [bodkinref19_second.j4] at h, fun _ _ _ _ _ _ _ _ _ r h => by simp [bodkinref19_second.j5] at h, fun _ _ _ _ _ _ _ _ _ r h => by simp [bodkinref19_second.j6] at h⟩
  | k + 1 => by
    obtain ⟨ih0, ih1, ih2, ih3, ih4, ih5, ih6⟩ := bodkinref19_second.mono_l k
    refine ⟨?_, ?_, ?_, ?_, ?_, ?_, ?_⟩
    · intro y0 y1 y2 y3 y4 y5 y6 y7
      unfold bodkinref19_second.j0
      repeat' first
      | (with_reducible exact ih0 _ _ _ _ _ _ _ _)
      | (with_reducible exact ih1 _ _ _ _ _ _ _ _)
      | (with_reducible exact ih2 _ _ _ _ _ _ _ _ _)
      | (with_reducible exact ih3 _ _ _ _ _ _ _ _ _ _)
      | (with_reducible exact ih4 _ _ _ _ _ _ _ _ _)
      | (with_reducible exact ih5 _ _ _ _ _ _ _ _ _)
      | (with_reducible exact ih6 _ _ _ _ _ _ _ _ _)
      | (with_reducible exact LeO.refl _)
      | (with_reducible exact LeO.none _)
      | (with_reducible refine LeO.ite ?_ ?_)
      | (with_reducible refine LeO.bind ?_ (fun _ => ?_))
      | exact ih0 _ _ _ _ _ _ _ _
      | exact ih1 _ _ _ _ _ _ _ _
      | exact ih2 _ _ _ _ _ _ _ _ _
      | exact ih3 _ _ _ _ _ _ _ _ _ _
      | exact ih4 _ _ _ _ _ _ _ _ _
      | exact ih5 _ _ _ _ _ _ _ _ _
      | exact ih6 _ _ _ _ _ _ _ _ _
      | exact LeO.none _
      | refine LeO.ite ?_ ?_
      | refine LeO.bind ?_ (fun _ => ?_)
    · intro y0 y1 y2 y3 y4 y5 y6 y7
      unfold bodkinref19_second.j1
      repeat' first
      | (with_reducible exact ih0 _ _ _ _ _ _ _ _)
      | (with_reducible exact ih1 _ _ _ _ _ _ _ _)
      | (with_reducible exact ih2 _ _ _ _ _ _ _ _ _)
      | (with_reducible exact ih3 _ _ _ _ _ _ _ _ _ _)
      | (with_reducible exact ih4 _ _ _ _ _ _ _ _ _)
      | (with_reducible exact ih5 _ _ _ _ _ _ _ _ _)
      | (with_reducible exact ih6 _ _ _ _ _ _ _ _ _)
      | (with_reducible exact LeO.refl _)
      | (with_reducible exact LeO.none _)
      | (with_reducible refine LeO.ite ?_ ?_)
      | (with_reducible refine LeO.bind ?_ (fun _ => ?_))
      | exact ih0 _ _ _ _ _ _ _ _
      | exact ih1 _ _ _ _ _ _ _ _
      | exact ih2 _ _ _ _ _ _ _ _ _
      | exact ih3 _ _ _ _ _ _ _ _ _ _
      | exact ih4 _ _ _ _ _ _ _ _ _
      | exact ih5 _ _ _ _ _ _ _ _ _
      | exact ih6 _ _ _ _ _ _ _ _ _
      | exact LeO.none _
      | refine LeO.ite ?_ ?_
      | refine LeO.bind ?_ (fun _ => ?_)
    · intro y0 y1 y2 y3 y4 y5 y6 y7 y8
      unfold bodkinref19_second.j2
      repeat' first
      | (with_reducible exact ih0 _ _ _ _ _ _ _ _)
      | (with_reducible exact ih1 _ _ _ _ _ _ _ _)
      | (with_reducible exact ih2 _ _ _ _ _ _ _ _ _)
      | (with_reducible exact ih3 _ _ _ _ _ _ _ _ _ _)
      | (with_reducible exact ih4 _ _ _ _ _ _ _ _ _)
      | (with_reducible exact ih5 _ _ _ _ _ _ _ _ _)
      | (with_reducible exact ih6 _ _ _ _ _ _ _ _ _)
      | (with_reducible exact LeO.refl _)
      | (with_reducible exact LeO.none _)
      | (with_reducible refine LeO.ite ?_ ?_)
      | (with_reducible refine LeO.bind ?_ (fun _ => ?_))
      | exact ih0 _ _ _ _ _ _ _ _
      | exact ih1 _ _ _ _ _ _ _ _
      | exact ih2 _ _ _ _ _ _ _ _ _
      | exact ih3 _ _ _ _ _ _ _ _ _ _
      | exact ih4 _ _ _ _ _ _ _ _ _
      | exact ih5 _ _ _ _ _ _ _ _ _
      | exact ih6 _ _ _ _ _ _ _ _ _
      | exact LeO.none _
      | refine LeO.ite ?_ ?_
      | refine LeO.bind ?_ (fun _ => ?_)
    · intro y0 y1 y2 y3 y4 y5 y6 y7 y8 y9
      unfold bodkinref19_second.j3
      repeat' first
      | (with_reducible exact ih0 _ _ _ _ _ _ _ _)
      | (with_reducible exact ih1 _ _ _ _ _ _ _ _)
      | (with_reducible exact ih2 _ _ _ _ _ _ _ _ _)
      | (with_reducible exact ih3 _ _ _ _ _ _ _ _ _ _)
      | (with_reducible exact ih4 _ _ _ _ _ _ _ _ _)
      | (with_reducible exact ih5 _ _ _ _ _ _ _ _ _)
      | (with_reducible exact ih6 _ _ _ _ _ _ _ _ _)
      | (with_reducible exact LeO.refl _)
      | (with_reducible exact LeO.none _)
      | (with_reducible refine LeO.ite ?_ ?_)
      | (with_reducible refine LeO.bind ?_ (fun _ => ?_))
      | exact ih0 _ _ _ _ _ _ _ _
      | exact ih1 _ _ _ _ _ _ _ _
      | exact ih2 _ _ _ _ _ _ _ _ _
      | exact ih3 _ _ _ _ _ _ _ _ _ _
      | exact ih4 _ _ _ _ _ _ _ _ _
      | exact ih5 _ _ _ _ _ _ _ _ _
      | exact ih6 _ _ _ _ _ _ _ _ _
      | exact LeO.none _
      | refine LeO.ite ?_ ?_
      | refine LeO.bind ?_ (fun _ => ?_)
    · intro y0 y1 y2 y3 y4 y5 y6 y7 y8
      unfold bodkinref19_second.j4
      repeat' first
      | (with_reducible exact ih0 _ _ _ _ _ _ _ _)
      | (with_reducible exact ih1 _ _ _ _ _ _ _ _)
      | (with_reducible exact ih2 _ _ _ _ _ _ _ _ _)
      | (with_reducible exact ih3 _ _ _ _ _ _ _ _ _ _)
      | (with_reducible exact ih4 _ _ _ _ _ _ _ _ _)
      | (with_reducible exact ih5 _ _ _ _ _ _ _ _ _)
      | (with_reducible exact ih6 _ _ _ _ _ _ _ _ _)
      | (with_reducible exact LeO.refl _)
      | (with_reducible exact LeO.none _)
      | (with_reducible refine LeO.ite ?_ ?_)
      | (with_reducible refine LeO.bind ?_ (fun _ => ?_))
      | exact ih0 _ _ _ _ _ _ _ _
      | exact ih1 _ _ _ _ _ _ _ _
      | exact ih2 _ _ _ _ _ _ _ _ _
      | exact ih3 _ _ _ _ _ _ _ _ _ _
      | exact ih4 _ _ _ _ _ _ _ _ _
      | exact ih5 _ _ _ _ _ _ _ _ _
      | exact ih6 _ _ _ _ _ _ _ _ _
      | exact LeO.none _
      | refine LeO.ite ?_ ?_
      | refine LeO.bind ?_ (fun _ => ?_)
    · intro y0 y1 y2 y3 y4 y5 y6 y7 y8
      unfold bodkinref19_second.j5
      repeat' first
      | (with_reducible exact ih0 _ _ _ _ _ _ _ _)
      | (with_reducible exact ih1 _ _ _ _ _ _ _ _)
      | (with_reducible exact ih2 _ _ _ _ _ _ _ _ _)
      | (with_reducible exact ih3 _ _ _ _ _ _ _ _ _ _)
      | (with_reducible exact ih4 _ _ _ _ _ _ _ _ _)
      | (with_reducible exact ih5 _ _ _ _ _ _ _ _ _)
      | (with_reducible exact ih6 _ _ _ _ _ _ _ _ _)
      | (with_reducible exact LeO.refl _)
      | (with_reducible exact LeO.none _)
      | (with_reducible refine LeO.ite ?_ ?_)
      | (with_reducible refine LeO.bind ?_ (fun _ => ?_))
      | exact ih0 _ _ _ _ _ _ _ _
      | exact ih1 _ _ _ _ _ _ _ _
      | exact ih2 _ _ _ _ _ _ _ _ _
      | exact ih3 _ _ _ _ _ _ _ _ _ _
      | exact ih4 _ _ _ _ _ _ _ _ _
      | exact ih5 _ _ _ _ _ _ _ _ _
      | exact ih6 _ _ _ _ _ _ _ _ _
      | exact LeO.none _
      | refine LeO.ite ?_ ?_
      | refine LeO.bind ?_ (fun _ => ?_)
    · intro y0 y1 y2 y3 y4 y5 y6 y7 y8
      unfold bodkinref19_second.j6
      repeat' first
      | (with_reducible exact ih0 _ _ _ _ _ _ _ _)
      | (with_reducible exact ih1 _ _ _ _ _ _ _ _)
      | (with_reducible exact ih2 _ _ _ _ _ _ _ _ _)
      | (with_reducible exact ih3 _ _ _ _ _ _ _ _ _ _)
      | (with_reducible exact ih4 _ _ _ _ _ _ _ _ _)
      | (with_reducible exact ih5 _ _ _ _ _ _ _ _ _)
      | (with_reducible exact ih6 _ _ _ _ _ _ _ _ _)
      | (with_reducible exact LeO.refl _)
      | (with_reducible exact LeO.none _)
      | (with_reducible refine LeO.ite ?_ ?_)
      | (with_reducible refine LeO.bind ?_ (fun _ => ?_))
      | exact ih0 _ _ _ _ _ _ _ _
      | exact ih1 _ _ _ _ _ _ _ _
      | exact ih2 _ _ _ _ _ _ _ _ _
      | exact ih3 _ _ _ _ _ _ _ _ _ _
      | exact ih4 _ _ _ _ _ _ _ _ _
      | exact ih5 _ _ _ _ _ _ _ _ _
      | exact ih6 _ _ _ _ _ _ _ _ _
      | exact LeO.none _
      | refine LeO.ite ?_ ?_
      | refine LeO.bind ?_ (fun _ => ?_)
theorem bodkinref19_second.mono : ∀ a0 a1 a2 a3 a4 a5 a6 k, LeO (bodkinref19_second.f k a0 a1 a2 a3 a4 a5 a6) (bodkinref19_second.f (k + 1) a0 a1 a2 a3 a4 a5 a6) := by
 intro a0 a1 a2 a3 a4 a5 a6 k
 obtain ⟨ih0, ih1, ih2, ih3, ih4, ih5, ih6⟩ := bodkinref19_second.mono_l k
 unfold bodkinref19_second.f
 repeat' first
   | (with_reducible exact ih0 _ _ _ _ _ _ _ _)
   | (with_reducible exact ih1 _ _ _ _ _ _ _ _)
   | (with_reducible exact ih2 _ _ _ _ _ _ _ _ _)
   | (with_reducible exact ih3 _ _ _ _ _ _ _ _ _ _)
   | (with_reducible exact ih4 _ _ _ _ _ _ _ _ _)
   | (with_reducible exact ih5 _ _ _ _ _ _ _ _ _)
   | (with_reducible exact ih6 _ _ _ _ _ _ _ _ _)
   | (with_reducible exact LeO.refl _)
   | (with_reducible exact LeO.none _)
   | (with_reducible refine LeO.ite ?_ ?_)
   | (with_reducible refine LeO.bind ?_ (fun _ => ?_))
   | exact ih0 _ _ _ _ _ _ _ _
   | exact ih1 _ _ _ _ _ _ _ _
   | exact ih2 _ _ _ _ _ _ _ _ _
   | exact ih3 _ _ _ _ _ _ _ _ _ _
   | exact ih4 _ _ _ _ _ _ _ _ _
   | exact ih5 _ _ _ _ _ _ _ _ _
   | exact ih6 _ _ _ _ _ _ _ _ _
   | exact LeO.none _
   | refine LeO.ite ?_ ?_
   | refine LeO.bind ?_ (fun _ => ?_)
set_option maxHeartbeats 8000000 in
set_option maxRecDepth 100000 in
theorem bodkinref19_second.calls (k : Nat) (a0 : ByteArray) (a1_0 : Int) (a1_1 : Int) (a1_2 : Bool) (a1_3 : Bool) (a1_4 : Bool) (a1_5 : ByteArray) (r1 : Int) (r2 : Int) (r3 : ByteArray) (r4 : Int) (w : World) (h : bodkinref19_second.f k a0 a1_0 a1_1 a1_2 a1_3 a1_4 a1_5 = some (r1, r2, r3, r4)) :
    Calls Try.prog 41 #[.string a0, .agg #[.int .i64 a1_0, .int .i32 a1_1, .bool a1_2, .bool a1_3, .bool a1_4, .string a1_5]] w fun e w' => e = .returned (.agg #[.int .i64 r1, .int .i64 r2, .string r3, .int .u8 r4]) ∧ Below w.heap.size w w' := by
 have hu25 := Try.underlying25
 have hu36 := Try.underlying36
 have HB := aM (Below.refl w.heap.size w)
 have H : (if a1_0 = 2 then (if a1_3 = true then (bodkinref19_second.j0 k a0 false a1_0 a1_1 a1_2 a1_3 a1_4 a1_5) else (bodkinref19_second.j0 k a0 (a1_1 == 71) a1_0 a1_1 a1_2 a1_3 a1_4 a1_5)) else (bodkinref19_second.j0 k a0 false a1_0 a1_1 a1_2 a1_3 a1_4 a1_5)) = some (r1, r2, r3, r4) := h
 clear h
 have HC3 := aM H
 clear H
 go_enter Try.func41, Try.ntmps41
 go_upto_region 1 with (first | ((with_reducible refine gate_dst (N := 3) rfl ?_); refine box_event ?hg (N := 3) ?hd (cs := #[.int .i64 a1_0, .int .i32 a1_1, .bool a1_2, .bool a1_3, .bool a1_4, .string a1_5]) (t := 25) ?hr ?_; (case hd => rfl); (case hg => rfl); (case hr => first | (go_simp; done) | (go_simp; rfl)); intro gb373 hg w4 hbox hb; have BK373 := aM (hbox); have GW373 := aM ((by rw [hg]; exact (bwZ (by apply_rules (transparency := .reducible) [HB.1, bwA, bwN, bwD])) : w.heap.size ≤ gb373)); have GE373 := aM ((by rw [hg]; exact (bwZ (by apply_rules (transparency := .reducible) [HB.1, bwA, bwN, bwD])) : w.heap.size ≤ gb373)); replace HB := aM (below_step (by apply_rules (transparency := .reducible) [HB.1, bwA, bwN, bwD]) hb); clear hb hbox hg) | ((with_reducible refine gate_dst (N := 4) rfl ?_); refine box_event ?hg (N := 4) ?hd (cs := #[.int .i64 0, .int .i64 0, .string (⟨#[]⟩ : ByteArray), .int .u8 0]) (t := 36) ?hr ?_; (case hd => rfl); (case hg => rfl); (case hr => first | (go_simp; done) | (go_simp; rfl)); intro gb374 hg w5 hbox hb; have BK374 := aM (hbox); have GW374 := aM ((by rw [hg]; exact (bwZ (by apply_rules (transparency := .reducible) [HB.1, bwA, bwN, bwD, bwS, GE373.1])) : w.heap.size ≤ gb374)); have GE374 := aM ((by rw [hg]; exact (bwZ (by apply_rules (transparency := .reducible) [HB.1, bwA, bwN, bwD, bwS, GE373.1])) : w.heap.size ≤ gb374)); replace HB := aM (below_step (by apply_rules (transparency := .reducible) [HB.1, bwA, bwN, bwD, bwS, GE373.1]) hb); have NB373_374 := aM ((by rw [hg]; exact Nat.ne_of_lt (blk_lt (g := gb373) (o := .cells #[.int .i64 a1_0, .int .i32 a1_1, .bool a1_2, .bool a1_3, .bool a1_4, .string a1_5] 25 (0, 0)) (by apply_rules (transparency := .reducible) [BK373.1, bkN, bkD, bkA])) : gb373 ≠ gb374)); have NB374_373 := aM ((by rw [hg]; exact Nat.ne_of_gt (blk_lt (g := gb373) (o := .cells #[.int .i64 a1_0, .int .i32 a1_1, .bool a1_2, .bool a1_3, .bool a1_4, .string a1_5] 25 (0, 0)) (by apply_rules (transparency := .reducible) [BK373.1, bkN, bkD, bkA])) : gb374 ≠ gb373)); replace BK373 := aM (blk_below (g := gb373) (o := .cells #[.int .i64 a1_0, .int .i32 a1_1, .bool a1_2, .bool a1_3, .bool a1_4, .string a1_5] 25 (0, 0)) (by apply_rules (transparency := .reducible) [BK373.1, bkN, bkD, bkA]) hb); clear hb hbox hg))
 (try simp only [Act.put, List.setIfInBounds_toArray, List.set_cons_zero, List.set_cons_succ])
 go_cut [19] (fun v19 wc => ∃ (kq : Nat) (x19_2 : Bool), v19 = .bool x19_2 ∧ Aside0 (bodkinref19_second.j0 kq a0 x19_2 a1_0 a1_1 a1_2 a1_3 a1_4 a1_5 = some (r1, r2, r3, r4)) ∧ Aside0 (kq ≤ k) ∧ Aside0 (wc.heap[gb373]? = some (.cells #[.int .i64 a1_0, .int .i32 a1_1, .bool a1_2, .bool a1_3, .bool a1_4, .string a1_5] 25 (0, 0))) ∧ Aside0 (wc.heap[gb374]? = some (.cells #[.int .i64 0, .int .i64 0, .string (⟨#[]⟩ : ByteArray), .int .u8 0] 36 (0, 0))) ∧ Aside0 (Below w.heap.size w wc))
 case first =>
  have H := HC3.1
  clear HC3
  by_cases c6 : a1_0 = 2
  ·rw [if_pos c6] at H
   have c6b0 : (a1_0 == 2) = true := beq_iff_eq.mpr c6
   have c6b1 : (a1_0 != 2) = false := bne_eq_false_iff_eq.mpr c6
   clear c6
   (first | rw [c6b0] | (simp only [i64_w, i32_w]; rw [c6b0]) | skip)
   by_cases c7 : a1_3 = true
   ·subst c7
    replace H : (bodkinref19_second.j0 k a0 false a1_0 a1_1 a1_2 true a1_4 a1_5) = some (r1, r2, r3, r4) := by rw [if_pos rfl] at H; exact H
    have H' := aM H
    clear H
    have hnb8 := NB373_374.1
    have hnc8 := NB374_373.1
    obtain ⟨z9_0, z9_1, z9_2, z9_3, z9_4, z9_5, z9_6, z9_7, z9_8, z9_9, z9_10, z9_11⟩ := bx6 BK373.1
    go_wp2
    go_meet
    case rel => exact ⟨_, (false), rfl, H', ⟨by omega⟩, ⟨by apply_rules (transparency := .reducible) [BK373.1, bkN, bkD, bkA]⟩, ⟨by apply_rules (transparency := .reducible) [BK374.1, bkN, bkD, bkA]⟩, ⟨by apply_rules (transparency := .reducible) [HB.1, bwA, bwN, bwD, bwS, GE373.1, GE374.1]⟩⟩
   replace c7 := Bool.eq_false_iff.mpr c7
   subst c7
   replace H : (bodkinref19_second.j0 k a0 (a1_1 == 71) a1_0 a1_1 a1_2 false a1_4 a1_5) = some (r1, r2, r3, r4) := by rw [if_neg (show ¬ (false = true) by decide)] at H; exact H
   have H' := aM H
   clear H
   have hnb10 := NB373_374.1
   have hnc10 := NB374_373.1
   obtain ⟨z11_0, z11_1, z11_2, z11_3, z11_4, z11_5, z11_6, z11_7, z11_8, z11_9, z11_10, z11_11⟩ := bx6 BK373.1
   go_wp2
   go_meet
   case rel => exact ⟨_, ((a1_1 == 71)), rfl, H', ⟨by omega⟩, ⟨by apply_rules (transparency := .reducible) [BK373.1, bkN, bkD, bkA]⟩, ⟨by apply_rules (transparency := .reducible) [BK374.1, bkN, bkD, bkA]⟩, ⟨by apply_rules (transparency := .reducible) [HB.1, bwA, bwN, bwD, bwS, GE373.1, GE374.1]⟩⟩
  rw [if_neg c6] at H
  have c6b0 : (a1_0 == 2) = false := beq_eq_false_iff_ne.mpr c6
  have c6b1 : (a1_0 != 2) = true := bne_iff_ne.mpr c6
  (first | rw [c6b0] | (simp only [i64_w, i32_w]; rw [c6b0]) | skip)
  have H' := aM H
  clear H
  have hnb12 := NB373_374.1
  have hnc12 := NB374_373.1
  obtain ⟨z13_0, z13_1, z13_2, z13_3, z13_4, z13_5, z13_6, z13_7, z13_8, z13_9, z13_10, z13_11⟩ := bx6 BK373.1
  go_wp2
  go_meet
  case rel => exact ⟨_, (false), rfl, H', ⟨by omega⟩, ⟨by apply_rules (transparency := .reducible) [BK373.1, bkN, bkD, bkA]⟩, ⟨by apply_rules (transparency := .reducible) [BK374.1, bkN, bkD, bkA]⟩, ⟨by apply_rules (transparency := .reducible) [HB.1, bwA, bwN, bwD, bwS, GE373.1, GE374.1]⟩⟩
 clear HC3
 obtain ⟨kq, x19_2, rfl, HA, HJ2, BK373, BK374, HB⟩ := hcut
 obtain _ | kj2 := kq
 ·exact absurd HA.1 (by simp [bodkinref19_second.j0])
 have H := HA.1
 clear HA
 simp only [bodkinref19_second.j0] at H
 by_cases c14 : x19_2 = true
 ·subst c14
  replace H : (some (37, 0, (⟨#[]⟩ : ByteArray), 0)) = some (r1, r2, r3, r4) := by rw [if_pos rfl] at H; exact H
  simp only [Option.some.injEq, Prod.mk.injEq] at H
  obtain ⟨rfl, rfl, rfl, rfl⟩ := H
  have hnb15 := NB374_373.1
  have hnc15 := NB373_374.1
  obtain ⟨z16_0, z16_1, z16_2, z16_3, z16_4, z16_5, z16_6, z16_7⟩ := bx4 BK374.1
  go_wp2
  refine bodyPost_ret (results_cell_row rfl _ _ gb374 36 #[.int .i64 37, .int .i64 0, .string (⟨#[]⟩ : ByteArray), .int .u8 0] (0, 0) _ rfl (by (with_reducible repeat first | apply bkN | apply bkD | apply bkA); refine put4 (cs := #[.int .i64 0, .int .i64 0, .string (⟨#[]⟩ : ByteArray), .int .u8 0]) ?_ rfl; (with_reducible repeat first | apply bkN | apply bkD | apply bkA); exact BK374.1) Try.underlying36 rfl (by kernel_rfl)) rfl ?_
  exact ⟨rfl, by apply_rules (transparency := .reducible) [HB.1, bwA, bwN, bwD, bwS, GE373.1, GE374.1]⟩
 replace c14 := Bool.eq_false_iff.mpr c14
 subst c14
 replace H : (if a1_0 = 1 then (if a1_2 = true then (bodkinref19_second.j1 kj2 a0 false a1_0 a1_1 a1_2 a1_3 a1_4 a1_5) else (bodkinref19_second.j1 kj2 a0 (!a1_3) a1_0 a1_1 a1_2 a1_3 a1_4 a1_5)) else (bodkinref19_second.j1 kj2 a0 false a1_0 a1_1 a1_2 a1_3 a1_4 a1_5)) = some (r1, r2, r3, r4) := by rw [if_neg (show ¬ (false = true) by decide)] at H; exact H
 have HC17 := aM H
 clear H
 go_upto_region 3 with (fail)
 go_cut [5] (fun v5 wc => ∃ (kq : Nat) (x5_16 : Bool), v5 = .bool x5_16 ∧ Aside0 (bodkinref19_second.j1 kq a0 x5_16 a1_0 a1_1 a1_2 a1_3 a1_4 a1_5 = some (r1, r2, r3, r4)) ∧ Aside0 (kq ≤ kj2) ∧ Aside0 (wc.heap[gb373]? = some (.cells #[.int .i64 a1_0, .int .i32 a1_1, .bool a1_2, .bool a1_3, .bool a1_4, .string a1_5] 25 (0, 0))) ∧ Aside0 (wc.heap[gb374]? = some (.cells #[.int .i64 0, .int .i64 0, .string (⟨#[]⟩ : ByteArray), .int .u8 0] 36 (0, 0))) ∧ Aside0 (Below w.heap.size w wc))
 case first =>
  have H := HC17.1
  clear HC17
  by_cases c18 : a1_0 = 1
  ·rw [if_pos c18] at H
   have c18b0 : (a1_0 == 1) = true := beq_iff_eq.mpr c18
   have c18b1 : (a1_0 != 1) = false := bne_eq_false_iff_eq.mpr c18
   clear c18
   (first | rw [c18b0] | (simp only [i64_w, i32_w]; rw [c18b0]) | skip)
   by_cases c19 : a1_2 = true
   ·subst c19
    replace H : (bodkinref19_second.j1 kj2 a0 false a1_0 a1_1 true a1_3 a1_4 a1_5) = some (r1, r2, r3, r4) := by rw [if_pos rfl] at H; exact H
    have H' := aM H
    clear H
    have hnb20 := NB373_374.1
    have hnc20 := NB374_373.1
    obtain ⟨z21_0, z21_1, z21_2, z21_3, z21_4, z21_5, z21_6, z21_7, z21_8, z21_9, z21_10, z21_11⟩ := bx6 BK373.1
    go_wp2
    go_meet
    case rel => exact ⟨_, (false), rfl, H', ⟨by have := HJ2.1; first | omega | exact Nat.le_refl _⟩, ⟨by apply_rules (transparency := .reducible) [BK373.1, bkN, bkD, bkA]⟩, ⟨by apply_rules (transparency := .reducible) [BK374.1, bkN, bkD, bkA]⟩, ⟨by apply_rules (transparency := .reducible) [HB.1, bwA, bwN, bwD, bwS, GE373.1, GE374.1]⟩⟩
   replace c19 := Bool.eq_false_iff.mpr c19
   subst c19
   replace H : (bodkinref19_second.j1 kj2 a0 (!a1_3) a1_0 a1_1 false a1_3 a1_4 a1_5) = some (r1, r2, r3, r4) := by rw [if_neg (show ¬ (false = true) by decide)] at H; exact H
   have H' := aM H
   clear H
   have hnb22 := NB373_374.1
   have hnc22 := NB374_373.1
   obtain ⟨z23_0, z23_1, z23_2, z23_3, z23_4, z23_5, z23_6, z23_7, z23_8, z23_9, z23_10, z23_11⟩ := bx6 BK373.1
   go_wp2
   go_meet
   case rel => exact ⟨_, (!a1_3), rfl, H', ⟨by have := HJ2.1; first | omega | exact Nat.le_refl _⟩, ⟨by apply_rules (transparency := .reducible) [BK373.1, bkN, bkD, bkA]⟩, ⟨by apply_rules (transparency := .reducible) [BK374.1, bkN, bkD, bkA]⟩, ⟨by apply_rules (transparency := .reducible) [HB.1, bwA, bwN, bwD, bwS, GE373.1, GE374.1]⟩⟩
  rw [if_neg c18] at H
  have c18b0 : (a1_0 == 1) = false := beq_eq_false_iff_ne.mpr c18
  have c18b1 : (a1_0 != 1) = true := bne_iff_ne.mpr c18
  (first | rw [c18b0] | (simp only [i64_w, i32_w]; rw [c18b0]) | skip)
  have H' := aM H
  clear H
  have hnb24 := NB373_374.1
  have hnc24 := NB374_373.1
  obtain ⟨z25_0, z25_1, z25_2, z25_3, z25_4, z25_5, z25_6, z25_7, z25_8, z25_9, z25_10, z25_11⟩ := bx6 BK373.1
  go_wp2
  go_meet
  case rel => exact ⟨_, (false), rfl, H', ⟨by have := HJ2.1; first | omega | exact Nat.le_refl _⟩, ⟨by apply_rules (transparency := .reducible) [BK373.1, bkN, bkD, bkA]⟩, ⟨by apply_rules (transparency := .reducible) [BK374.1, bkN, bkD, bkA]⟩, ⟨by apply_rules (transparency := .reducible) [HB.1, bwA, bwN, bwD, bwS, GE373.1, GE374.1]⟩⟩
 clear HC17
 try clear c14
 obtain ⟨kq, x5_16, rfl, HA, HJ16, BK373, BK374, HB⟩ := hcut
 obtain _ | kj16 := kq
 ·exact absurd HA.1 (by simp [bodkinref19_second.j1])
 have H := HA.1
 clear HA
 simp only [bodkinref19_second.j1] at H
 have HC26 := aM H
 clear H
 go_upto_region 4 with (fail)
 go_cut [6] (fun v6 wc => ∃ (kq : Nat) (x6_25 : Bool), v6 = .bool x6_25 ∧ Aside0 (bodkinref19_second.j2 kq a0 x5_16 x6_25 a1_0 a1_1 a1_2 a1_3 a1_4 a1_5 = some (r1, r2, r3, r4)) ∧ Aside0 (kq ≤ kj16) ∧ Aside0 (wc.heap[gb373]? = some (.cells #[.int .i64 a1_0, .int .i32 a1_1, .bool a1_2, .bool a1_3, .bool a1_4, .string a1_5] 25 (0, 0))) ∧ Aside0 (wc.heap[gb374]? = some (.cells #[.int .i64 0, .int .i64 0, .string (⟨#[]⟩ : ByteArray), .int .u8 0] 36 (0, 0))) ∧ Aside0 (Below w.heap.size w wc))
 case first =>
  have H := HC26.1
  clear HC26
  by_cases c27 : x5_16 = true
  ·subst c27
   replace H : (if a1_1 = 64 then (bodkinref19_second.j2 kj16 a0 true true a1_0 a1_1 a1_2 a1_3 a1_4 a1_5) else (if a1_1 ≥ 97 then (bodkinref19_second.j2 kj16 a0 true (decide (a1_1 ≤ 122)) a1_0 a1_1 a1_2 a1_3 a1_4 a1_5) else (bodkinref19_second.j2 kj16 a0 true false a1_0 a1_1 a1_2 a1_3 a1_4 a1_5))) = some (r1, r2, r3, r4) := by rw [if_pos rfl] at H; exact H
   by_cases c28 : a1_1 = 64
   ·rw [if_pos c28] at H
    have c28b0 : (a1_1 == 64) = true := beq_iff_eq.mpr c28
    have c28b1 : (a1_1 != 64) = false := bne_eq_false_iff_eq.mpr c28
    clear c28
    (first | rw [c28b0] | (simp only [i64_w, i32_w]; rw [c28b0]) | skip)
    have H' := aM H
    clear H
    have hnb29 := NB373_374.1
    have hnc29 := NB374_373.1
    obtain ⟨z30_0, z30_1, z30_2, z30_3, z30_4, z30_5, z30_6, z30_7, z30_8, z30_9, z30_10, z30_11⟩ := bx6 BK373.1
    go_wp2
    go_meet
    case rel => exact ⟨_, (true), rfl, H', ⟨by have := HJ2.1; have := HJ16.1; first | omega | exact Nat.le_refl _⟩, ⟨by apply_rules (transparency := .reducible) [BK373.1, bkN, bkD, bkA]⟩, ⟨by apply_rules (transparency := .reducible) [BK374.1, bkN, bkD, bkA]⟩, ⟨by apply_rules (transparency := .reducible) [HB.1, bwA, bwN, bwD, bwS, GE373.1, GE374.1]⟩⟩
   rw [if_neg c28] at H
   have c28b0 : (a1_1 == 64) = false := beq_eq_false_iff_ne.mpr c28
   have c28b1 : (a1_1 != 64) = true := bne_iff_ne.mpr c28
   (first | rw [c28b0] | (simp only [i64_w, i32_w]; rw [c28b0]) | skip)
   by_cases c31 : a1_1 ≥ 97
   ·rw [if_pos c31] at H
    have c31b0 : decide (97 ≤ a1_1) = true := decide_eq_true c31
    clear c31
    have H' := aM H
    clear H
    have hnb32 := NB373_374.1
    have hnc32 := NB374_373.1
    obtain ⟨z33_0, z33_1, z33_2, z33_3, z33_4, z33_5, z33_6, z33_7, z33_8, z33_9, z33_10, z33_11⟩ := bx6 BK373.1
    go_wp2
    go_meet
    case rel => exact ⟨_, (decide (a1_1 ≤ 122)), rfl, H', ⟨by have := HJ2.1; have := HJ16.1; first | omega | exact Nat.le_refl _⟩, ⟨by apply_rules (transparency := .reducible) [BK373.1, bkN, bkD, bkA]⟩, ⟨by apply_rules (transparency := .reducible) [BK374.1, bkN, bkD, bkA]⟩, ⟨by apply_rules (transparency := .reducible) [HB.1, bwA, bwN, bwD, bwS, GE373.1, GE374.1]⟩⟩
   rw [if_neg c31] at H
   have c31b0 : decide (97 ≤ a1_1) = false := decide_eq_false c31
   clear c31
   have H' := aM H
   clear H
   have hnb34 := NB373_374.1
   have hnc34 := NB374_373.1
   obtain ⟨z35_0, z35_1, z35_2, z35_3, z35_4, z35_5, z35_6, z35_7, z35_8, z35_9, z35_10, z35_11⟩ := bx6 BK373.1
   go_wp2
   go_meet
   case rel => exact ⟨_, (false), rfl, H', ⟨by have := HJ2.1; have := HJ16.1; first | omega | exact Nat.le_refl _⟩, ⟨by apply_rules (transparency := .reducible) [BK373.1, bkN, bkD, bkA]⟩, ⟨by apply_rules (transparency := .reducible) [BK374.1, bkN, bkD, bkA]⟩, ⟨by apply_rules (transparency := .reducible) [HB.1, bwA, bwN, bwD, bwS, GE373.1, GE374.1]⟩⟩
  replace c27 := Bool.eq_false_iff.mpr c27
  subst c27
  replace H : (bodkinref19_second.j2 kj16 a0 false false a1_0 a1_1 a1_2 a1_3 a1_4 a1_5) = some (r1, r2, r3, r4) := by rw [if_neg (show ¬ (false = true) by decide)] at H; exact H
  have H' := aM H
  clear H
  go_wp2
  go_meet
  case rel => exact ⟨_, (false), rfl, H', ⟨by have := HJ2.1; have := HJ16.1; first | omega | exact Nat.le_refl _⟩, ⟨by apply_rules (transparency := .reducible) [BK373.1, bkN, bkD, bkA]⟩, ⟨by apply_rules (transparency := .reducible) [BK374.1, bkN, bkD, bkA]⟩, ⟨by apply_rules (transparency := .reducible) [HB.1, bwA, bwN, bwD, bwS, GE373.1, GE374.1]⟩⟩
 clear HC26
 try clear c14
 obtain ⟨kq, x6_25, rfl, HA, HJ25, BK373, BK374, HB⟩ := hcut
 obtain _ | kj25 := kq
 ·exact absurd HA.1 (by simp [bodkinref19_second.j2])
 have H := HA.1
 clear HA
 simp only [bodkinref19_second.j2] at H
 have HC36 := aM H
 clear H
 go_upto_region 5 with (fail)
 go_cut [50] (fun v50 wc => ∃ (kq : Nat) (x50_35 : Bool), v50 = .bool x50_35 ∧ Aside0 (bodkinref19_second.j3 kq a0 x5_16 x6_25 x50_35 a1_0 a1_1 a1_2 a1_3 a1_4 a1_5 = some (r1, r2, r3, r4)) ∧ Aside0 (kq ≤ kj25) ∧ Aside0 (wc.heap[gb373]? = some (.cells #[.int .i64 a1_0, .int .i32 a1_1, .bool a1_2, .bool a1_3, .bool a1_4, .string a1_5] 25 (0, 0))) ∧ Aside0 (wc.heap[gb374]? = some (.cells #[.int .i64 0, .int .i64 0, .string (⟨#[]⟩ : ByteArray), .int .u8 0] 36 (0, 0))) ∧ Aside0 (Below w.heap.size w wc))
 case first =>
  have H := HC36.1
  clear HC36
  by_cases c37 : a0.toList = ([109] : List UInt8)
  ·rw [if_pos c37] at H
   have c37b0 : (a0.toList == ([109] : List UInt8)) = true := beq_iff_eq.mpr c37
   have c37b1 : (a0.toList != ([109] : List UInt8)) = false := bne_eq_false_iff_eq.mpr c37
   clear c37
   (first | rw [c37b0] | (simp only [i64_w, i32_w]; rw [c37b0]) | skip)
   have H' := aM H
   clear H
   go_wp2
   go_meet
   case rel => exact ⟨_, (x6_25), rfl, H', ⟨by have := HJ2.1; have := HJ16.1; have := HJ25.1; first | omega | exact Nat.le_refl _⟩, ⟨by apply_rules (transparency := .reducible) [BK373.1, bkN, bkD, bkA]⟩, ⟨by apply_rules (transparency := .reducible) [BK374.1, bkN, bkD, bkA]⟩, ⟨by apply_rules (transparency := .reducible) [HB.1, bwA, bwN, bwD, bwS, GE373.1, GE374.1]⟩⟩
  rw [if_neg c37] at H
  have c37b0 : (a0.toList == ([109] : List UInt8)) = false := beq_eq_false_iff_ne.mpr c37
  have c37b1 : (a0.toList != ([109] : List UInt8)) = true := bne_iff_ne.mpr c37
  (first | rw [c37b0] | (simp only [i64_w, i32_w]; rw [c37b0]) | skip)
  have H' := aM H
  clear H
  go_wp2
  go_meet
  case rel => exact ⟨_, (false), rfl, H', ⟨by have := HJ2.1; have := HJ16.1; have := HJ25.1; first | omega | exact Nat.le_refl _⟩, ⟨by apply_rules (transparency := .reducible) [BK373.1, bkN, bkD, bkA]⟩, ⟨by apply_rules (transparency := .reducible) [BK374.1, bkN, bkD, bkA]⟩, ⟨by apply_rules (transparency := .reducible) [HB.1, bwA, bwN, bwD, bwS, GE373.1, GE374.1]⟩⟩
 clear HC36
 try clear c14
 obtain ⟨kq, x50_35, rfl, HA, HJ35, BK373, BK374, HB⟩ := hcut
 obtain _ | kj35 := kq
 ·exact absurd HA.1 (by simp [bodkinref19_second.j3])
 have H := HA.1
 clear HA
 simp only [bodkinref19_second.j3] at H
 by_cases c38 : x50_35 = true
 ·subst c38
  replace H : (some (29, 0, (⟨#[]⟩ : ByteArray), (a1_1) % 256)) = some (r1, r2, r3, r4) := by rw [if_pos rfl] at H; exact H
  simp only [Option.some.injEq, Prod.mk.injEq] at H
  obtain ⟨rfl, rfl, rfl, rfl⟩ := H
  have hnb39 := NB373_374.1
  have hnc39 := NB374_373.1
  obtain ⟨z40_0, z40_1, z40_2, z40_3, z40_4, z40_5, z40_6, z40_7, z40_8, z40_9, z40_10, z40_11⟩ := bx6 BK373.1
  obtain ⟨z41_0, z41_1, z41_2, z41_3, z41_4, z41_5, z41_6, z41_7⟩ := bx4 BK374.1
  go_wp2
  refine bodyPost_ret (results_cell_row rfl _ _ gb374 36 #[.int .i64 29, .int .i64 0, .string (⟨#[]⟩ : ByteArray), .int .u8 ((a1_1) % 256)] (0, 0) _ rfl (by (with_reducible repeat first | apply bkN | apply bkD | apply bkA); refine put4 (cs := #[.int .i64 0, .int .i64 0, .string (⟨#[]⟩ : ByteArray), .int .u8 0]) ?_ rfl; (with_reducible repeat first | apply bkN | apply bkD | apply bkA); exact BK374.1) Try.underlying36 rfl (by kernel_rfl)) rfl ?_
  exact ⟨rfl, by apply_rules (transparency := .reducible) [HB.1, bwA, bwN, bwD, bwS, GE373.1, GE374.1]⟩
 replace c38 := Bool.eq_false_iff.mpr c38
 subst c38
 replace H : (if a0.toList = ([39] : List UInt8) then (bodkinref19_second.j4 kj35 a0 x5_16 x6_25 a1_0 a1_1 a1_2 a1_3 a1_4 a1_5) else (bodkinref19_second.j4 kj35 a0 x5_16 false a1_0 a1_1 a1_2 a1_3 a1_4 a1_5)) = some (r1, r2, r3, r4) := by rw [if_neg (show ¬ (false = true) by decide)] at H; exact H
 have HC42 := aM H
 clear H
 go_upto_region 7 with (fail)
 go_cut [60] (fun v60 wc => ∃ (kq : Nat) (x60_41 : Bool), v60 = .bool x60_41 ∧ Aside0 (bodkinref19_second.j4 kq a0 x5_16 x60_41 a1_0 a1_1 a1_2 a1_3 a1_4 a1_5 = some (r1, r2, r3, r4)) ∧ Aside0 (kq ≤ kj35) ∧ Aside0 (wc.heap[gb373]? = some (.cells #[.int .i64 a1_0, .int .i32 a1_1, .bool a1_2, .bool a1_3, .bool a1_4, .string a1_5] 25 (0, 0))) ∧ Aside0 (wc.heap[gb374]? = some (.cells #[.int .i64 0, .int .i64 0, .string (⟨#[]⟩ : ByteArray), .int .u8 0] 36 (0, 0))) ∧ Aside0 (Below w.heap.size w wc))
 case first =>
  have H := HC42.1
  clear HC42
  by_cases c43 : a0.toList = ([39] : List UInt8)
  ·rw [if_pos c43] at H
   have c43b0 : (a0.toList == ([39] : List UInt8)) = true := beq_iff_eq.mpr c43
   have c43b1 : (a0.toList != ([39] : List UInt8)) = false := bne_eq_false_iff_eq.mpr c43
   clear c43
   (first | rw [c43b0] | (simp only [i64_w, i32_w]; rw [c43b0]) | skip)
   have H' := aM H
   clear H
   go_wp2
   go_meet
   case rel => exact ⟨_, (x6_25), rfl, H', ⟨by have := HJ2.1; have := HJ16.1; have := HJ25.1; have := HJ35.1; first | omega | exact Nat.le_refl _⟩, ⟨by apply_rules (transparency := .reducible) [BK373.1, bkN, bkD, bkA]⟩, ⟨by apply_rules (transparency := .reducible) [BK374.1, bkN, bkD, bkA]⟩, ⟨by apply_rules (transparency := .reducible) [HB.1, bwA, bwN, bwD, bwS, GE373.1, GE374.1]⟩⟩
  rw [if_neg c43] at H
  have c43b0 : (a0.toList == ([39] : List UInt8)) = false := beq_eq_false_iff_ne.mpr c43
  have c43b1 : (a0.toList != ([39] : List UInt8)) = true := bne_iff_ne.mpr c43
  (first | rw [c43b0] | (simp only [i64_w, i32_w]; rw [c43b0]) | skip)
  have H' := aM H
  clear H
  go_wp2
  go_meet
  case rel => exact ⟨_, (false), rfl, H', ⟨by have := HJ2.1; have := HJ16.1; have := HJ25.1; have := HJ35.1; first | omega | exact Nat.le_refl _⟩, ⟨by apply_rules (transparency := .reducible) [BK373.1, bkN, bkD, bkA]⟩, ⟨by apply_rules (transparency := .reducible) [BK374.1, bkN, bkD, bkA]⟩, ⟨by apply_rules (transparency := .reducible) [HB.1, bwA, bwN, bwD, bwS, GE373.1, GE374.1]⟩⟩
 clear HC42
 try clear c14
 try clear c38
 obtain ⟨kq, x60_41, rfl, HA, HJ41, BK373, BK374, HB⟩ := hcut
 obtain _ | kj41 := kq
 ·exact absurd HA.1 (by simp [bodkinref19_second.j4])
 have H := HA.1
 clear HA
 simp only [bodkinref19_second.j4] at H
 by_cases c44 : x60_41 = true
 ·subst c44
  replace H : (some (30, 0, (⟨#[]⟩ : ByteArray), (a1_1) % 256)) = some (r1, r2, r3, r4) := by rw [if_pos rfl] at H; exact H
  simp only [Option.some.injEq, Prod.mk.injEq] at H
  obtain ⟨rfl, rfl, rfl, rfl⟩ := H
  have hnb45 := NB373_374.1
  have hnc45 := NB374_373.1
  obtain ⟨z46_0, z46_1, z46_2, z46_3, z46_4, z46_5, z46_6, z46_7, z46_8, z46_9, z46_10, z46_11⟩ := bx6 BK373.1
  obtain ⟨z47_0, z47_1, z47_2, z47_3, z47_4, z47_5, z47_6, z47_7⟩ := bx4 BK374.1
  go_wp2
  refine bodyPost_ret (results_cell_row rfl _ _ gb374 36 #[.int .i64 30, .int .i64 0, .string (⟨#[]⟩ : ByteArray), .int .u8 ((a1_1) % 256)] (0, 0) _ rfl (by (with_reducible repeat first | apply bkN | apply bkD | apply bkA); refine put4 (cs := #[.int .i64 0, .int .i64 0, .string (⟨#[]⟩ : ByteArray), .int .u8 0]) ?_ rfl; (with_reducible repeat first | apply bkN | apply bkD | apply bkA); exact BK374.1) Try.underlying36 rfl (by kernel_rfl)) rfl ?_
  exact ⟨rfl, by apply_rules (transparency := .reducible) [HB.1, bwA, bwN, bwD, bwS, GE373.1, GE374.1]⟩
 replace c44 := Bool.eq_false_iff.mpr c44
 subst c44
 replace H : (if a0.toList = ([120] : List UInt8) then (if a1_0 = 2 then (if a1_3 = true then (bodkinref19_second.j5 kj41 a0 x5_16 false a1_0 a1_1 a1_2 a1_3 a1_4 a1_5) else (bodkinref19_second.j5 kj41 a0 x5_16 (a1_1 == 88) a1_0 a1_1 a1_2 a1_3 a1_4 a1_5)) else (bodkinref19_second.j5 kj41 a0 x5_16 false a1_0 a1_1 a1_2 a1_3 a1_4 a1_5)) else (bodkinref19_second.j5 kj41 a0 x5_16 false a1_0 a1_1 a1_2 a1_3 a1_4 a1_5)) = some (r1, r2, r3, r4) := by rw [if_neg (show ¬ (false = true) by decide)] at H; exact H
 have HC48 := aM H
 clear H
 go_upto_region 9 with (fail)
 go_cut [70] (fun v70 wc => ∃ (kq : Nat) (x70_47 : Bool), v70 = .bool x70_47 ∧ Aside0 (bodkinref19_second.j5 kq a0 x5_16 x70_47 a1_0 a1_1 a1_2 a1_3 a1_4 a1_5 = some (r1, r2, r3, r4)) ∧ Aside0 (kq ≤ kj41) ∧ Aside0 (wc.heap[gb373]? = some (.cells #[.int .i64 a1_0, .int .i32 a1_1, .bool a1_2, .bool a1_3, .bool a1_4, .string a1_5] 25 (0, 0))) ∧ Aside0 (wc.heap[gb374]? = some (.cells #[.int .i64 0, .int .i64 0, .string (⟨#[]⟩ : ByteArray), .int .u8 0] 36 (0, 0))) ∧ Aside0 (Below w.heap.size w wc))
 case first =>
  have H := HC48.1
  clear HC48
  by_cases c49 : a0.toList = ([120] : List UInt8)
  ·rw [if_pos c49] at H
   have c49b0 : (a0.toList == ([120] : List UInt8)) = true := beq_iff_eq.mpr c49
   have c49b1 : (a0.toList != ([120] : List UInt8)) = false := bne_eq_false_iff_eq.mpr c49
   clear c49
   (first | rw [c49b0] | (simp only [i64_w, i32_w]; rw [c49b0]) | skip)
   by_cases c50 : a1_0 = 2
   ·rw [if_pos c50] at H
    have c50b0 : (a1_0 == 2) = true := beq_iff_eq.mpr c50
    have c50b1 : (a1_0 != 2) = false := bne_eq_false_iff_eq.mpr c50
    clear c50
    by_cases c51 : a1_3 = true
    ·subst c51
     replace H : (bodkinref19_second.j5 kj41 a0 x5_16 false a1_0 a1_1 a1_2 true a1_4 a1_5) = some (r1, r2, r3, r4) := by rw [if_pos rfl] at H; exact H
     have H' := aM H
     clear H
     have hnb52 := NB373_374.1
     have hnc52 := NB374_373.1
     obtain ⟨z53_0, z53_1, z53_2, z53_3, z53_4, z53_5, z53_6, z53_7, z53_8, z53_9, z53_10, z53_11⟩ := bx6 BK373.1
     go_wp2
     go_meet
     case rel => exact ⟨_, (false), rfl, H', ⟨by have := HJ2.1; have := HJ16.1; have := HJ25.1; have := HJ35.1; have := HJ41.1; first | omega | exact Nat.le_refl _⟩, ⟨by apply_rules (transparency := .reducible) [BK373.1, bkN, bkD, bkA]⟩, ⟨by apply_rules (transparency := .reducible) [BK374.1, bkN, bkD, bkA]⟩, ⟨by apply_rules (transparency := .reducible) [HB.1, bwA, bwN, bwD, bwS, GE373.1, GE374.1]⟩⟩
    replace c51 := Bool.eq_false_iff.mpr c51
    subst c51
    replace H : (bodkinref19_second.j5 kj41 a0 x5_16 (a1_1 == 88) a1_0 a1_1 a1_2 false a1_4 a1_5) = some (r1, r2, r3, r4) := by rw [if_neg (show ¬ (false = true) by decide)] at H; exact H
    have H' := aM H
    clear H
    have hnb54 := NB373_374.1
    have hnc54 := NB374_373.1
    obtain ⟨z55_0, z55_1, z55_2, z55_3, z55_4, z55_5, z55_6, z55_7, z55_8, z55_9, z55_10, z55_11⟩ := bx6 BK373.1
    go_wp2
    go_meet
    case rel => exact ⟨_, ((a1_1 == 88)), rfl, H', ⟨by have := HJ2.1; have := HJ16.1; have := HJ25.1; have := HJ35.1; have := HJ41.1; first | omega | exact Nat.le_refl _⟩, ⟨by apply_rules (transparency := .reducible) [BK373.1, bkN, bkD, bkA]⟩, ⟨by apply_rules (transparency := .reducible) [BK374.1, bkN, bkD, bkA]⟩, ⟨by apply_rules (transparency := .reducible) [HB.1, bwA, bwN, bwD, bwS, GE373.1, GE374.1]⟩⟩
   rw [if_neg c50] at H
   have c50b0 : (a1_0 == 2) = false := beq_eq_false_iff_ne.mpr c50
   have c50b1 : (a1_0 != 2) = true := bne_iff_ne.mpr c50
   have H' := aM H
   clear H
   have hnb56 := NB373_374.1
   have hnc56 := NB374_373.1
   obtain ⟨z57_0, z57_1, z57_2, z57_3, z57_4, z57_5, z57_6, z57_7, z57_8, z57_9, z57_10, z57_11⟩ := bx6 BK373.1
   go_wp2
   go_meet
   case rel => exact ⟨_, (false), rfl, H', ⟨by have := HJ2.1; have := HJ16.1; have := HJ25.1; have := HJ35.1; have := HJ41.1; first | omega | exact Nat.le_refl _⟩, ⟨by apply_rules (transparency := .reducible) [BK373.1, bkN, bkD, bkA]⟩, ⟨by apply_rules (transparency := .reducible) [BK374.1, bkN, bkD, bkA]⟩, ⟨by apply_rules (transparency := .reducible) [HB.1, bwA, bwN, bwD, bwS, GE373.1, GE374.1]⟩⟩
  rw [if_neg c49] at H
  have c49b0 : (a0.toList == ([120] : List UInt8)) = false := beq_eq_false_iff_ne.mpr c49
  have c49b1 : (a0.toList != ([120] : List UInt8)) = true := bne_iff_ne.mpr c49
  (first | rw [c49b0] | (simp only [i64_w, i32_w]; rw [c49b0]) | skip)
  have H' := aM H
  clear H
  go_wp2
  go_meet
  case rel => exact ⟨_, (false), rfl, H', ⟨by have := HJ2.1; have := HJ16.1; have := HJ25.1; have := HJ35.1; have := HJ41.1; first | omega | exact Nat.le_refl _⟩, ⟨by apply_rules (transparency := .reducible) [BK373.1, bkN, bkD, bkA]⟩, ⟨by apply_rules (transparency := .reducible) [BK374.1, bkN, bkD, bkA]⟩, ⟨by apply_rules (transparency := .reducible) [HB.1, bwA, bwN, bwD, bwS, GE373.1, GE374.1]⟩⟩
 clear HC48
 try clear c14
 try clear c38
 try clear c44
 obtain ⟨kq, x70_47, rfl, HA, HJ47, BK373, BK374, HB⟩ := hcut
 obtain _ | kj47 := kq
 ·exact absurd HA.1 (by simp [bodkinref19_second.j5])
 have H := HA.1
 clear HA
 simp only [bodkinref19_second.j5] at H
 by_cases c58 : x70_47 = true
 ·subst c58
  replace H : (some (31, 0, (⟨#[]⟩ : ByteArray), 0)) = some (r1, r2, r3, r4) := by rw [if_pos rfl] at H; exact H
  simp only [Option.some.injEq, Prod.mk.injEq] at H
  obtain ⟨rfl, rfl, rfl, rfl⟩ := H
  have hnb59 := NB374_373.1
  have hnc59 := NB373_374.1
  obtain ⟨z60_0, z60_1, z60_2, z60_3, z60_4, z60_5, z60_6, z60_7⟩ := bx4 BK374.1
  go_wp2
  refine bodyPost_ret (results_cell_row rfl _ _ gb374 36 #[.int .i64 31, .int .i64 0, .string (⟨#[]⟩ : ByteArray), .int .u8 0] (0, 0) _ rfl (by (with_reducible repeat first | apply bkN | apply bkD | apply bkA); refine put4 (cs := #[.int .i64 0, .int .i64 0, .string (⟨#[]⟩ : ByteArray), .int .u8 0]) ?_ rfl; (with_reducible repeat first | apply bkN | apply bkD | apply bkA); exact BK374.1) Try.underlying36 rfl (by kernel_rfl)) rfl ?_
  exact ⟨rfl, by apply_rules (transparency := .reducible) [HB.1, bwA, bwN, bwD, bwS, GE373.1, GE374.1]⟩
 replace c58 := Bool.eq_false_iff.mpr c58
 subst c58
 replace H : (if a0.toList = ([120] : List UInt8) then (if x5_16 = true then (bodkinref19_second.j6 kj47 a0 x5_16 (a1_1 == 117) a1_0 a1_1 a1_2 a1_3 a1_4 a1_5) else (bodkinref19_second.j6 kj47 a0 x5_16 false a1_0 a1_1 a1_2 a1_3 a1_4 a1_5)) else (bodkinref19_second.j6 kj47 a0 x5_16 false a1_0 a1_1 a1_2 a1_3 a1_4 a1_5)) = some (r1, r2, r3, r4) := by rw [if_neg (show ¬ (false = true) by decide)] at H; exact H
 have HC61 := aM H
 clear H
 go_upto_region 11 with (fail)
 go_cut [89] (fun v89 wc => ∃ (kq : Nat) (x89_60 : Bool), v89 = .bool x89_60 ∧ Aside0 (bodkinref19_second.j6 kq a0 x5_16 x89_60 a1_0 a1_1 a1_2 a1_3 a1_4 a1_5 = some (r1, r2, r3, r4)) ∧ Aside0 (kq ≤ kj47) ∧ Aside0 (wc.heap[gb373]? = some (.cells #[.int .i64 a1_0, .int .i32 a1_1, .bool a1_2, .bool a1_3, .bool a1_4, .string a1_5] 25 (0, 0))) ∧ Aside0 (wc.heap[gb374]? = some (.cells #[.int .i64 0, .int .i64 0, .string (⟨#[]⟩ : ByteArray), .int .u8 0] 36 (0, 0))) ∧ Aside0 (Below w.heap.size w wc))
 case first =>
  have H := HC61.1
  clear HC61
  by_cases c62 : a0.toList = ([120] : List UInt8)
  ·rw [if_pos c62] at H
   have c62b0 : (a0.toList == ([120] : List UInt8)) = true := beq_iff_eq.mpr c62
   have c62b1 : (a0.toList != ([120] : List UInt8)) = false := bne_eq_false_iff_eq.mpr c62
   clear c62
   (first | rw [c62b0] | (simp only [i64_w, i32_w]; rw [c62b0]) | skip)
   by_cases c63 : x5_16 = true
   ·subst c63
    replace H : (bodkinref19_second.j6 kj47 a0 true (a1_1 == 117) a1_0 a1_1 a1_2 a1_3 a1_4 a1_5) = some (r1, r2, r3, r4) := by rw [if_pos rfl] at H; exact H
    have H' := aM H
    clear H
    have hnb64 := NB373_374.1
    have hnc64 := NB374_373.1
    obtain ⟨z65_0, z65_1, z65_2, z65_3, z65_4, z65_5, z65_6, z65_7, z65_8, z65_9, z65_10, z65_11⟩ := bx6 BK373.1
    go_wp2
    go_meet
    case rel => exact ⟨_, ((a1_1 == 117)), rfl, H', ⟨by have := HJ2.1; have := HJ16.1; have := HJ25.1; have := HJ35.1; have := HJ41.1; have := HJ47.1; first | omega | exact Nat.le_refl _⟩, ⟨by apply_rules (transparency := .reducible) [BK373.1, bkN, bkD, bkA]⟩, ⟨by apply_rules (transparency := .reducible) [BK374.1, bkN, bkD, bkA]⟩, ⟨by apply_rules (transparency := .reducible) [HB.1, bwA, bwN, bwD, bwS, GE373.1, GE374.1]⟩⟩
   replace c63 := Bool.eq_false_iff.mpr c63
   subst c63
   replace H : (bodkinref19_second.j6 kj47 a0 false false a1_0 a1_1 a1_2 a1_3 a1_4 a1_5) = some (r1, r2, r3, r4) := by rw [if_neg (show ¬ (false = true) by decide)] at H; exact H
   have H' := aM H
   clear H
   go_wp2
   go_meet
   case rel => exact ⟨_, (false), rfl, H', ⟨by have := HJ2.1; have := HJ16.1; have := HJ25.1; have := HJ35.1; have := HJ41.1; have := HJ47.1; first | omega | exact Nat.le_refl _⟩, ⟨by apply_rules (transparency := .reducible) [BK373.1, bkN, bkD, bkA]⟩, ⟨by apply_rules (transparency := .reducible) [BK374.1, bkN, bkD, bkA]⟩, ⟨by apply_rules (transparency := .reducible) [HB.1, bwA, bwN, bwD, bwS, GE373.1, GE374.1]⟩⟩
  rw [if_neg c62] at H
  have c62b0 : (a0.toList == ([120] : List UInt8)) = false := beq_eq_false_iff_ne.mpr c62
  have c62b1 : (a0.toList != ([120] : List UInt8)) = true := bne_iff_ne.mpr c62
  (first | rw [c62b0] | (simp only [i64_w, i32_w]; rw [c62b0]) | skip)
  have H' := aM H
  clear H
  go_wp2
  go_meet
  case rel => exact ⟨_, (false), rfl, H', ⟨by have := HJ2.1; have := HJ16.1; have := HJ25.1; have := HJ35.1; have := HJ41.1; have := HJ47.1; first | omega | exact Nat.le_refl _⟩, ⟨by apply_rules (transparency := .reducible) [BK373.1, bkN, bkD, bkA]⟩, ⟨by apply_rules (transparency := .reducible) [BK374.1, bkN, bkD, bkA]⟩, ⟨by apply_rules (transparency := .reducible) [HB.1, bwA, bwN, bwD, bwS, GE373.1, GE374.1]⟩⟩
 clear HC61
 try clear c14
 try clear c38
 try clear c44
 try clear c58
 obtain ⟨kq, x89_60, rfl, HA, HJ60, BK373, BK374, HB⟩ := hcut
 obtain _ | kj60 := kq
 ·exact absurd HA.1 (by simp [bodkinref19_second.j6])
 have H := HA.1
 clear HA
 simp only [bodkinref19_second.j6] at H
 by_cases c66 : x89_60 = true
 ·subst c66
  replace H : (some (32, 0, (⟨#[]⟩ : ByteArray), 0)) = some (r1, r2, r3, r4) := by rw [if_pos rfl] at H; exact H
  simp only [Option.some.injEq, Prod.mk.injEq] at H
  obtain ⟨rfl, rfl, rfl, rfl⟩ := H
  have hnb67 := NB374_373.1
  have hnc67 := NB373_374.1
  obtain ⟨z68_0, z68_1, z68_2, z68_3, z68_4, z68_5, z68_6, z68_7⟩ := bx4 BK374.1
  go_wp2
  refine bodyPost_ret (results_cell_row rfl _ _ gb374 36 #[.int .i64 32, .int .i64 0, .string (⟨#[]⟩ : ByteArray), .int .u8 0] (0, 0) _ rfl (by (with_reducible repeat first | apply bkN | apply bkD | apply bkA); refine put4 (cs := #[.int .i64 0, .int .i64 0, .string (⟨#[]⟩ : ByteArray), .int .u8 0]) ?_ rfl; (with_reducible repeat first | apply bkN | apply bkD | apply bkA); exact BK374.1) Try.underlying36 rfl (by kernel_rfl)) rfl ?_
  exact ⟨rfl, by apply_rules (transparency := .reducible) [HB.1, bwA, bwN, bwD, bwS, GE373.1, GE374.1]⟩
 replace c66 := Bool.eq_false_iff.mpr c66
 subst c66
 replace H : (if a0.toList = ([120] : List UInt8) then (if x5_16 = true then (if a1_1 = 114 then (some (33, 0, (⟨#[]⟩ : ByteArray), 0)) else (some (40, 0, (⟨#[]⟩ : ByteArray), 0))) else (some (40, 0, (⟨#[]⟩ : ByteArray), 0))) else (some (40, 0, (⟨#[]⟩ : ByteArray), 0))) = some (r1, r2, r3, r4) := by rw [if_neg (show ¬ (false = true) by decide)] at H; exact H
 by_cases c69 : a0.toList = ([120] : List UInt8)
 ·rw [if_pos c69] at H
  have c69b0 : (a0.toList == ([120] : List UInt8)) = true := beq_iff_eq.mpr c69
  have c69b1 : (a0.toList != ([120] : List UInt8)) = false := bne_eq_false_iff_eq.mpr c69
  clear c69
  by_cases c70 : x5_16 = true
  ·subst c70
   replace H : (if a1_1 = 114 then (some (33, 0, (⟨#[]⟩ : ByteArray), 0)) else (some (40, 0, (⟨#[]⟩ : ByteArray), 0))) = some (r1, r2, r3, r4) := by rw [if_pos rfl] at H; exact H
   by_cases c71 : a1_1 = 114
   ·rw [if_pos c71] at H
    have c71b0 : (a1_1 == 114) = true := beq_iff_eq.mpr c71
    have c71b1 : (a1_1 != 114) = false := bne_eq_false_iff_eq.mpr c71
    clear c71
    simp only [Option.some.injEq, Prod.mk.injEq] at H
    obtain ⟨rfl, rfl, rfl, rfl⟩ := H
    have hnb72 := NB373_374.1
    have hnc72 := NB374_373.1
    obtain ⟨z73_0, z73_1, z73_2, z73_3, z73_4, z73_5, z73_6, z73_7, z73_8, z73_9, z73_10, z73_11⟩ := bx6 BK373.1
    obtain ⟨z74_0, z74_1, z74_2, z74_3, z74_4, z74_5, z74_6, z74_7⟩ := bx4 BK374.1
    go_wp2
    refine bodyPost_ret (results_cell_row rfl _ _ gb374 36 #[.int .i64 33, .int .i64 0, .string (⟨#[]⟩ : ByteArray), .int .u8 0] (0, 0) _ rfl (by (with_reducible repeat first | apply bkN | apply bkD | apply bkA); refine put4 (cs := #[.int .i64 0, .int .i64 0, .string (⟨#[]⟩ : ByteArray), .int .u8 0]) ?_ rfl; (with_reducible repeat first | apply bkN | apply bkD | apply bkA); exact BK374.1) Try.underlying36 rfl (by kernel_rfl)) rfl ?_
    exact ⟨rfl, by apply_rules (transparency := .reducible) [HB.1, bwA, bwN, bwD, bwS, GE373.1, GE374.1]⟩
   rw [if_neg c71] at H
   have c71b0 : (a1_1 == 114) = false := beq_eq_false_iff_ne.mpr c71
   have c71b1 : (a1_1 != 114) = true := bne_iff_ne.mpr c71
   simp only [Option.some.injEq, Prod.mk.injEq] at H
   obtain ⟨rfl, rfl, rfl, rfl⟩ := H
   have hnb75 := NB373_374.1
   have hnc75 := NB374_373.1
   obtain ⟨z76_0, z76_1, z76_2, z76_3, z76_4, z76_5, z76_6, z76_7, z76_8, z76_9, z76_10, z76_11⟩ := bx6 BK373.1
   obtain ⟨z77_0, z77_1, z77_2, z77_3, z77_4, z77_5, z77_6, z77_7⟩ := bx4 BK374.1
   go_wp2
   refine bodyPost_ret (results_cell_row rfl _ _ gb374 36 #[.int .i64 40, .int .i64 0, .string (⟨#[]⟩ : ByteArray), .int .u8 0] (0, 0) _ rfl (by (with_reducible repeat first | apply bkN | apply bkD | apply bkA); refine put4 (cs := #[.int .i64 0, .int .i64 0, .string (⟨#[]⟩ : ByteArray), .int .u8 0]) ?_ rfl; (with_reducible repeat first | apply bkN | apply bkD | apply bkA); exact BK374.1) Try.underlying36 rfl (by kernel_rfl)) rfl ?_
   exact ⟨rfl, by apply_rules (transparency := .reducible) [HB.1, bwA, bwN, bwD, bwS, GE373.1, GE374.1]⟩
  replace c70 := Bool.eq_false_iff.mpr c70
  subst c70
  replace H : (some (40, 0, (⟨#[]⟩ : ByteArray), 0)) = some (r1, r2, r3, r4) := by rw [if_neg (show ¬ (false = true) by decide)] at H; exact H
  simp only [Option.some.injEq, Prod.mk.injEq] at H
  obtain ⟨rfl, rfl, rfl, rfl⟩ := H
  have hnb78 := NB374_373.1
  have hnc78 := NB373_374.1
  obtain ⟨z79_0, z79_1, z79_2, z79_3, z79_4, z79_5, z79_6, z79_7⟩ := bx4 BK374.1
  go_wp2
  refine bodyPost_ret (results_cell_row rfl _ _ gb374 36 #[.int .i64 40, .int .i64 0, .string (⟨#[]⟩ : ByteArray), .int .u8 0] (0, 0) _ rfl (by (with_reducible repeat first | apply bkN | apply bkD | apply bkA); refine put4 (cs := #[.int .i64 0, .int .i64 0, .string (⟨#[]⟩ : ByteArray), .int .u8 0]) ?_ rfl; (with_reducible repeat first | apply bkN | apply bkD | apply bkA); exact BK374.1) Try.underlying36 rfl (by kernel_rfl)) rfl ?_
  exact ⟨rfl, by apply_rules (transparency := .reducible) [HB.1, bwA, bwN, bwD, bwS, GE373.1, GE374.1]⟩
 rw [if_neg c69] at H
 have c69b0 : (a0.toList == ([120] : List UInt8)) = false := beq_eq_false_iff_ne.mpr c69
 have c69b1 : (a0.toList != ([120] : List UInt8)) = true := bne_iff_ne.mpr c69
 simp only [Option.some.injEq, Prod.mk.injEq] at H
 obtain ⟨rfl, rfl, rfl, rfl⟩ := H
 have hnb80 := NB374_373.1
 have hnc80 := NB373_374.1
 obtain ⟨z81_0, z81_1, z81_2, z81_3, z81_4, z81_5, z81_6, z81_7⟩ := bx4 BK374.1
 go_wp2
 refine bodyPost_ret (results_cell_row rfl _ _ gb374 36 #[.int .i64 40, .int .i64 0, .string (⟨#[]⟩ : ByteArray), .int .u8 0] (0, 0) _ rfl (by (with_reducible repeat first | apply bkN | apply bkD | apply bkA); refine put4 (cs := #[.int .i64 0, .int .i64 0, .string (⟨#[]⟩ : ByteArray), .int .u8 0]) ?_ rfl; (with_reducible repeat first | apply bkN | apply bkD | apply bkA); exact BK374.1) Try.underlying36 rfl (by kernel_rfl)) rfl ?_
 exact ⟨rfl, by apply_rules (transparency := .reducible) [HB.1, bwA, bwN, bwD, bwS, GE373.1, GE374.1]⟩

end Go.Proofs.Ytgkaiagoogjibaa.PBind
