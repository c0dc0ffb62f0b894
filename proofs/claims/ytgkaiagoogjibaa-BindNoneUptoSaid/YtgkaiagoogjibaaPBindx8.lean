-- written by pp.py of this session's wip: the kit's print, turned in a few places, over this claim's program
import Derived.Test.YtgkaiagoogjibaaPBindx0
import Derived.Test.YtgkaiagoogjibaaPBindx3
import Derived.Test.YtgkaiagoogjibaaPBindx7
namespace Go.Proofs.Ytgkaiagoogjibaa.PBind
open Go.RowKit Go.Proofs.YtgkaiagoogjibaaW.PrintWords Go.Proofs.YtgkaiagoogjibaaW.PrintLast Go.Proofs.YtgkaiagoogjibaaW.PrintMore
open Go.Proofs.YtgkaiagoogjibaaW.PrintWords renaming blk_drewN → bkN, blk_drew → bkD, blk_alloc → bkA, below_alloc → bwA, pw_below_drewN → bwN, below_drew1 → bwD, below_size → bwZ, below_step → bwP, blk_below → bkB, blk_cell → bkC, blk_frozen → bkF, blk_far → bkR, blk_lt → bkL
open Go.Proofs.YtgkaiagoogjibaaW.PrintWords.Aside0 renaming mk → aM
attribute [local go_sem] max2_int min2_int max_two min_two max_three min_three max_four min_four   -- for this text's walks alone
set_option linter.unusedVariables false
set_option linter.unusedSimpArgs false

/-! ### bind_second: function 34 -/
mutual
def bind_second.j0 : Nat → Int → Bool → Int → Int → Bool → Bool → Bool → ByteArray → Int → Int → ByteArray → Int → Option (Int × Int × ByteArray × Int)
  | 0, _, _, _, _, _, _, _, _, _, _, _, _ => none
  | k + 1, x0, x6, x190000, x190001, x190002, x190003, x190004, x190005, x192000, x192001, x192002, x192003 => if x190000 = 1 then (if x190002 = true then (bind_second.j1 k x0 x6 false x190000 x190001 x190002 x190003 x190004 x190005 x192000 x192001 x192002 x192003) else (bind_second.j1 k x0 x6 (!x190003) x190000 x190001 x190002 x190003 x190004 x190005 x192000 x192001 x192002 x192003)) else (bind_second.j1 k x0 x6 false x190000 x190001 x190002 x190003 x190004 x190005 x192000 x192001 x192002 x192003)
def bind_second.j1 : Nat → Int → Bool → Bool → Int → Int → Bool → Bool → Bool → ByteArray → Int → Int → ByteArray → Int → Option (Int × Int × ByteArray × Int)
  | 0, _, _, _, _, _, _, _, _, _, _, _, _, _ => none
  | k + 1, x0, x6, x7, x190000, x190001, x190002, x190003, x190004, x190005, x192000, x192001, x192002, x192003 => if x7 = true then (if x190001 = 64 then (bind_second.j2 k x0 x6 x7 true x190000 x190001 x190002 x190003 x190004 x190005 x192000 x192001 x192002 x192003) else (if x190001 ≥ 97 then (bind_second.j2 k x0 x6 x7 (decide (x190001 ≤ 122)) x190000 x190001 x190002 x190003 x190004 x190005 x192000 x192001 x192002 x192003) else (bind_second.j2 k x0 x6 x7 false x190000 x190001 x190002 x190003 x190004 x190005 x192000 x192001 x192002 x192003))) else (bind_second.j2 k x0 x6 x7 false x190000 x190001 x190002 x190003 x190004 x190005 x192000 x192001 x192002 x192003)
def bind_second.j2 : Nat → Int → Bool → Bool → Bool → Int → Int → Bool → Bool → Bool → ByteArray → Int → Int → ByteArray → Int → Option (Int × Int × ByteArray × Int)
  | 0, _, _, _, _, _, _, _, _, _, _, _, _, _, _ => none
  | k + 1, x0, x6, x7, x8, x190000, x190001, x190002, x190003, x190004, x190005, x192000, x192001, x192002, x192003 => if x0 = 113 then ((bind_quoted.f k x190000 x190001 x190002 x190003 x190004 x190005).bind fun bt192 => (if bt192.2 = true then ((bind_inserts.f bt192.1).bind fun bt194 => (some (bt194.1, bt194.2.1, bt194.2.2.1, bt194.2.2.2))) else (some (x192000, x192001, x192002, x192003)))) else (if x6 = true then (bind_second.j3 k x0 x6 x7 x8 (x190001 == 71) x190000 x190001 x190002 x190003 x190004 x190005 x192000 x192001 x192002 x192003) else (bind_second.j3 k x0 x6 x7 x8 false x190000 x190001 x190002 x190003 x190004 x190005 x192000 x192001 x192002 x192003))
def bind_second.j3 : Nat → Int → Bool → Bool → Bool → Bool → Int → Int → Bool → Bool → Bool → ByteArray → Int → Int → ByteArray → Int → Option (Int × Int × ByteArray × Int)
  | 0, _, _, _, _, _, _, _, _, _, _, _, _, _, _, _ => none
  | k + 1, x0, x6, x7, x8, x60, x190000, x190001, x190002, x190003, x190004, x190005, x192000, x192001, x192002, x192003 => if x60 = true then (some (37, x192001, x192002, x192003)) else (if x0 = 109 then (bind_second.j4 k x0 x6 x7 x8 x8 x190000 x190001 x190002 x190003 x190004 x190005 x192000 x192001 x192002 x192003) else (bind_second.j4 k x0 x6 x7 x8 false x190000 x190001 x190002 x190003 x190004 x190005 x192000 x192001 x192002 x192003))
def bind_second.j4 : Nat → Int → Bool → Bool → Bool → Bool → Int → Int → Bool → Bool → Bool → ByteArray → Int → Int → ByteArray → Int → Option (Int × Int × ByteArray × Int)
  | 0, _, _, _, _, _, _, _, _, _, _, _, _, _, _, _ => none
  | k + 1, x0, x6, x7, x8, x68, x190000, x190001, x190002, x190003, x190004, x190005, x192000, x192001, x192002, x192003 => if x68 = true then (some (29, x192001, x192002, (x190001) % 256)) else (if x0 = 39 then (bind_second.j5 k x0 x6 x7 x8 x190000 x190001 x190002 x190003 x190004 x190005 x192000 x192001 x192002 x192003) else (bind_second.j5 k x0 x6 x7 false x190000 x190001 x190002 x190003 x190004 x190005 x192000 x192001 x192002 x192003))
def bind_second.j5 : Nat → Int → Bool → Bool → Bool → Int → Int → Bool → Bool → Bool → ByteArray → Int → Int → ByteArray → Int → Option (Int × Int × ByteArray × Int)
  | 0, _, _, _, _, _, _, _, _, _, _, _, _, _, _ => none
  | k + 1, x0, x6, x7, x79, x190000, x190001, x190002, x190003, x190004, x190005, x192000, x192001, x192002, x192003 => if x79 = true then (some (30, x192001, x192002, (x190001) % 256)) else (if x0 = 120 then (if x6 = true then (bind_second.j6 k x0 x7 (x190001 == 88) x190000 x190001 x190002 x190003 x190004 x190005 x192000 x192001 x192002 x192003) else (bind_second.j6 k x0 x7 false x190000 x190001 x190002 x190003 x190004 x190005 x192000 x192001 x192002 x192003)) else (bind_second.j6 k x0 x7 false x190000 x190001 x190002 x190003 x190004 x190005 x192000 x192001 x192002 x192003))
def bind_second.j6 : Nat → Int → Bool → Bool → Int → Int → Bool → Bool → Bool → ByteArray → Int → Int → ByteArray → Int → Option (Int × Int × ByteArray × Int)
  | 0, _, _, _, _, _, _, _, _, _, _, _, _, _ => none
  | k + 1, x0, x7, x90, x190000, x190001, x190002, x190003, x190004, x190005, x192000, x192001, x192002, x192003 => if x90 = true then (some (31, x192001, x192002, x192003)) else (if x0 = 120 then (if x7 = true then (bind_second.j7 k x0 x7 (x190001 == 117) x190000 x190001 x190002 x190003 x190004 x190005 x192000 x192001 x192002 x192003) else (bind_second.j7 k x0 x7 false x190000 x190001 x190002 x190003 x190004 x190005 x192000 x192001 x192002 x192003)) else (bind_second.j7 k x0 x7 false x190000 x190001 x190002 x190003 x190004 x190005 x192000 x192001 x192002 x192003))
def bind_second.j7 : Nat → Int → Bool → Bool → Int → Int → Bool → Bool → Bool → ByteArray → Int → Int → ByteArray → Int → Option (Int × Int × ByteArray × Int)
  | 0, _, _, _, _, _, _, _, _, _, _, _, _, _ => none
  | k + 1, x0, x7, x102, x190000, x190001, x190002, x190003, x190004, x190005, x192000, x192001, x192002, x192003 => if x102 = true then (some (32, x192001, x192002, x192003)) else (if x0 = 120 then (if x7 = true then (if x190001 = 114 then (some (33, x192001, x192002, x192003)) else (some (x192000, x192001, x192002, x192003))) else (some (x192000, x192001, x192002, x192003))) else (some (x192000, x192001, x192002, x192003)))
end
def bind_second.f (k : Nat) (a0 : Int) (a1_0 : Int) (a1_1 : Int) (a1_2 : Bool) (a1_3 : Bool) (a1_4 : Bool) (a1_5 : ByteArray) : Option (Int × Int × ByteArray × Int) := if a1_0 = 2 then (bind_second.j0 k a0 (!a1_3) a1_0 a1_1 a1_2 a1_3 a1_4 a1_5 40 1 (⟨#[]⟩ : ByteArray) 0) else (bind_second.j0 k a0 false a1_0 a1_1 a1_2 a1_3 a1_4 a1_5 40 1 (⟨#[]⟩ : ByteArray) 0)
theorem bind_second.mono_l : ∀ k, (∀ y0 y1 y2 y3 y4 y5 y6 y7 y8 y9 y10 y11, LeO (bind_second.j0 k y0 y1 y2 y3 y4 y5 y6 y7 y8 y9 y10 y11) (bind_second.j0 (k + 1) y0 y1 y2 y3 y4 y5 y6 y7 y8 y9 y10 y11)) ∧ (∀ y0 y1 y2 y3 y4 y5 y6 y7 y8 y9 y10 y11 y12, LeO (bind_second.j1 k y0 y1 y2 y3 y4 y5 y6 y7 y8 y9 y10 y11 y12) (bind_second.j1 (k + 1) y0 y1 y2 y3 y4 y5 y6 y7 y8 y9 y10 y11 y12)) ∧ (∀ y0 y1 y2 y3 y4 y5 y6 y7 y8 y9 y10 y11 y12 y13, LeO (bind_second.j2 k y0 y1 y2 y3 y4 y5 y6 y7 y8 y9 y10 y11 y12 y13) (bind_second.j2 (k + 1) y0 y1 y2 y3 y4 y5 y6 y7 y8 y9 y10 y11 y12 y13)) ∧ (∀ y0 y1 y2 y3 y4 y5 y6 y7 y8 y9 y10 y11 y12 y13 y14, LeO (bind_second.j3 k y0 y1 y2 y3 y4 y5 y6 y7 y8 y9 y10 y11 y12 y13 y14) (bind_second.j3 (k + 1) y0 y1 y2 y3 y4 y5 y6 y7 y8 y9 y10 y11 y12 y13 y14)) ∧ (∀ y0 y1 y2 y3 y4 y5 y6 y7 y8 y9 y10 y11 y12 y13 y14, LeO (bind_second.j4 k y0 y1 y2 y3 y4 y5 y6 y7 y8 y9 y10 y11 y12 y13 y14) (bind_second.j4 (k + 1) y0 y1 y2 y3 y4 y5 y6 y7 y8 y9 y10 y11 y12 y13 y14)) ∧ (∀ y0 y1 y2 y3 y4 y5 y6 y7 y8 y9 y10 y11 y12 y13, LeO (bind_second.j5 k y0 y1 y2 y3 y4 y5 y6 y7 y8 y9 y10 y11 y12 y13) (bind_second.j5 (k + 1) y0 y1 y2 y3 y4 y5 y6 y7 y8 y9 y10 y11 y12 y13)) ∧ (∀ y0 y1 y2 y3 y4 y5 y6 y7 y8 y9 y10 y11 y12, LeO (bind_second.j6 k y0 y1 y2 y3 y4 y5 y6 y7 y8 y9 y10 y11 y12) (bind_second.j6 (k + 1) y0 y1 y2 y3 y4 y5 y6 y7 y8 y9 y10 y11 y12)) ∧ (∀ y0 y1 y2 y3 y4 y5 y6 y7 y8 y9 y10 y11 y12, LeO (bind_second.j7 k y0 y1 y2 y3 y4 y5 y6 y7 y8 y9 y10 y11 y12) (bind_second.j7 (k + 1) y0 y1 y2 y3 y4 y5 y6 y7 y8 y9 y10 y11 y12))
  | 0 => ⟨fun _ _ _ _ _ _ _ _ _ _ _ _ r h => by simp [bind_second.j0] at h, fun _ _ _ _ _ _ _ _ _ _ _ _ _ r h => by simp [bind_second.j1] at h, fun _ _ _ _ _ _ _ _ _ _ _ _ _ _ r h => by simp [bind_second.j2] at h, fun _ _ _ _ _ _ _ _ _ _ _ _ _ _ _ r h => by simp [bind_second.j3] at h, fun _ _ _ _ _ _ _ _ _ _ _ _ _ _ _ r h => by simp [bind_second.j4] at h, fun _ _ _ _ _ _ _ _ _ _ _ _ _ _ r h => by simp [bind_second.j5] at h, fun _ _ _ _ _ _ _ _ _ _ _ _ _ r h => by simp [bind_second.j6] at h, fun _ _ _ _ _ _ _ _ _ _ _ _ _ r h => by simp [bind_second.j7] at h⟩
  | k + 1 => by
    obtain ⟨ih0, ih1, ih2, ih3, ih4, ih5, ih6, ih7⟩ := bind_second.mono_l k
    refine ⟨?_, ?_, ?_, ?_, ?_, ?_, ?_, ?_⟩
    · intro y0 y1 y2 y3 y4 y5 y6 y7 y8 y9 y10 y11
      unfold bind_second.j0
      repeat' first
      | (with_reducible exact ih0 _ _ _ _ _ _ _ _ _ _ _ _)
      | (with_reducible exact ih1 _ _ _ _ _ _ _ _ _ _ _ _ _)
      | (with_reducible exact ih2 _ _ _ _ _ _ _ _ _ _ _ _ _ _)
      | (with_reducible exact ih3 _ _ _ _ _ _ _ _ _ _ _ _ _ _ _)
      | (with_reducible exact ih4 _ _ _ _ _ _ _ _ _ _ _ _ _ _ _)
      | (with_reducible exact ih5 _ _ _ _ _ _ _ _ _ _ _ _ _ _)
      | (with_reducible exact ih6 _ _ _ _ _ _ _ _ _ _ _ _ _)
      | (with_reducible exact ih7 _ _ _ _ _ _ _ _ _ _ _ _ _)
      | (with_reducible exact bind_quoted.mono _ _ _ _ _ _ _)
      | (with_reducible exact LeO.refl _)
      | (with_reducible exact LeO.none _)
      | (with_reducible refine LeO.ite ?_ ?_)
      | (with_reducible refine LeO.bind ?_ (fun _ => ?_))
      | exact ih0 _ _ _ _ _ _ _ _ _ _ _ _
      | exact ih1 _ _ _ _ _ _ _ _ _ _ _ _ _
      | exact ih2 _ _ _ _ _ _ _ _ _ _ _ _ _ _
      | exact ih3 _ _ _ _ _ _ _ _ _ _ _ _ _ _ _
      | exact ih4 _ _ _ _ _ _ _ _ _ _ _ _ _ _ _
      | exact ih5 _ _ _ _ _ _ _ _ _ _ _ _ _ _
      | exact ih6 _ _ _ _ _ _ _ _ _ _ _ _ _
      | exact ih7 _ _ _ _ _ _ _ _ _ _ _ _ _
      | exact bind_quoted.mono _ _ _ _ _ _ _
      | exact LeO.none _
      | refine LeO.ite ?_ ?_
      | refine LeO.bind ?_ (fun _ => ?_)
    · intro y0 y1 y2 y3 y4 y5 y6 y7 y8 y9 y10 y11 y12
      unfold bind_second.j1
      repeat' first
      | (with_reducible exact ih0 _ _ _ _ _ _ _ _ _ _ _ _)
      | (with_reducible exact ih1 _ _ _ _ _ _ _ _ _ _ _ _ _)
      | (with_reducible exact ih2 _ _ _ _ _ _ _ _ _ _ _ _ _ _)
      | (with_reducible exact ih3 _ _ _ _ _ _ _ _ _ _ _ _ _ _ _)
      | (with_reducible exact ih4 _ _ _ _ _ _ _ _ _ _ _ _ _ _ _)
      | (with_reducible exact ih5 _ _ _ _ _ _ _ _ _ _ _ _ _ _)
      | (with_reducible exact ih6 _ _ _ _ _ _ _ _ _ _ _ _ _)
      | (with_reducible exact ih7 _ _ _ _ _ _ _ _ _ _ _ _ _)
      | (with_reducible exact bind_quoted.mono _ _ _ _ _ _ _)
      | (with_reducible exact LeO.refl _)
      | (with_reducible exact LeO.none _)
      | (with_reducible refine LeO.ite ?_ ?_)
      | (with_reducible refine LeO.bind ?_ (fun _ => ?_))
      | exact ih0 _ _ _ _ _ _ _ _ _ _ _ _
      | exact ih1 _ _ _ _ _ _ _ _ _ _ _ _ _
      | exact ih2 _ _ _ _ _ _ _ _ _ _ _ _ _ _
      | exact ih3 _ _ _ _ _ _ _ _ _ _ _ _ _ _ _
      | exact ih4 _ _ _ _ _ _ _ _ _ _ _ _ _ _ _
      | exact ih5 _ _ _ _ _ _ _ _ _ _ _ _ _ _
      | exact ih6 _ _ _ _ _ _ _ _ _ _ _ _ _
      | exact ih7 _ _ _ _ _ _ _ _ _ _ _ _ _
      | exact bind_quoted.mono _ _ _ _ _ _ _
      | exact LeO.none _
      | refine LeO.ite ?_ ?_
      | refine LeO.bind ?_ (fun _ => ?_)
    · intro y0 y1 y2 y3 y4 y5 y6 y7 y8 y9 y10 y11 y12 y13
      unfold bind_second.j2
      repeat' first
      | (with_reducible exact ih0 _ _ _ _ _ _ _ _ _ _ _ _)
      | (with_reducible exact ih1 _ _ _ _ _ _ _ _ _ _ _ _ _)
      | (with_reducible exact ih2 _ _ _ _ _ _ _ _ _ _ _ _ _ _)
      | (with_reducible exact ih3 _ _ _ _ _ _ _ _ _ _ _ _ _ _ _)
      | (with_reducible exact ih4 _ _ _ _ _ _ _ _ _ _ _ _ _ _ _)
      | (with_reducible exact ih5 _ _ _ _ _ _ _ _ _ _ _ _ _ _)
      | (with_reducible exact ih6 _ _ _ _ _ _ _ _ _ _ _ _ _)
      | (with_reducible exact ih7 _ _ _ _ _ _ _ _ _ _ _ _ _)
      | (with_reducible exact bind_quoted.mono _ _ _ _ _ _ _)
      | (with_reducible exact LeO.refl _)
      | (with_reducible exact LeO.none _)
      | (with_reducible refine LeO.ite ?_ ?_)
      | (with_reducible refine LeO.bind ?_ (fun _ => ?_))
      | exact ih0 _ _ _ _ _ _ _ _ _ _ _ _
      | exact ih1 _ _ _ _ _ _ _ _ _ _ _ _ _
      | exact ih2 _ _ _ _ _ _ _ _ _ _ _ _ _ _
      | exact ih3 _ _ _ _ _ _ _ _ _ _ _ _ _ _ _
      | exact ih4 _ _ _ _ _ _ _ _ _ _ _ _ _ _ _
      | exact ih5 _ _ _ _ _ _ _ _ _ _ _ _ _ _
      | exact ih6 _ _ _ _ _ _ _ _ _ _ _ _ _
      | exact ih7 _ _ _ _ _ _ _ _ _ _ _ _ _
      | exact bind_quoted.mono _ _ _ _ _ _ _
      | exact LeO.none _
      | refine LeO.ite ?_ ?_
      | refine LeO.bind ?_ (fun _ => ?_)
    · intro y0 y1 y2 y3 y4 y5 y6 y7 y8 y9 y10 y11 y12 y13 y14
      unfold bind_second.j3
      repeat' first
      | (with_reducible exact ih0 _ _ _ _ _ _ _ _ _ _ _ _)
      | (with_reducible exact ih1 _ _ _ _ _ _ _ _ _ _ _ _ _)
      | (with_reducible exact ih2 _ _ _ _ _ _ _ _ _ _ _ _ _ _)
      | (with_reducible exact ih3 _ _ _ _ _ _ _ _ _ _ _ _ _ _ _)
      | (with_reducible exact ih4 _ _ _ _ _ _ _ _ _ _ _ _ _ _ _)
      | (with_reducible exact ih5 _ _ _ _ _ _ _ _ _ _ _ _ _ _)
      | (with_reducible exact ih6 _ _ _ _ _ _ _ _ _ _ _ _ _)
      | (with_reducible exact ih7 _ _ _ _ _ _ _ _ _ _ _ _ _)
      | (with_reducible exact bind_quoted.mono _ _ _ _ _ _ _)
      | (with_reducible exact LeO.refl _)
      | (with_reducible exact LeO.none _)
      | (with_reducible refine LeO.ite ?_ ?_)
      | (with_reducible refine LeO.bind ?_ (fun _ => ?_))
      | exact ih0 _ _ _ _ _ _ _ _ _ _ _ _
      | exact ih1 _ _ _ _ _ _ _ _ _ _ _ _ _
      | exact ih2 _ _ _ _ _ _ _ _ _ _ _ _ _ _
      | exact ih3 _ _ _ _ _ _ _ _ _ _ _ _ _ _ _
      | exact ih4 _ _ _ _ _ _ _ _ _ _ _ _ _ _ _
      | exact ih5 _ _ _ _ _ _ _ _ _ _ _ _ _ _
      | exact ih6 _ _ _ _ _ _ _ _ _ _ _ _ _
      | exact ih7 _ _ _ _ _ _ _ _ _ _ _ _ _
      | exact bind_quoted.mono _ _ _ _ _ _ _
      | exact LeO.none _
      | refine LeO.ite ?_ ?_
      | refine LeO.bind ?_ (fun _ => ?_)
    · intro y0 y1 y2 y3 y4 y5 y6 y7 y8 y9 y10 y11 y12 y13 y14
      unfold bind_second.j4
      repeat' first
      | (with_reducible exact ih0 _ _ _ _ _ _ _ _ _ _ _ _)
      | (with_reducible exact ih1 _ _ _ _ _ _ _ _ _ _ _ _ _)
      | (with_reducible exact ih2 _ _ _ _ _ _ _ _ _ _ _ _ _ _)
      | (with_reducible exact ih3 _ _ _ _ _ _ _ _ _ _ _ _ _ _ _)
      | (with_reducible exact ih4 _ _ _ _ _ _ _ _ _ _ _ _ _ _ _)
      | (with_reducible exact ih5 _ _ _ _ _ _ _ _ _ _ _ _ _ _)
      | (with_reducible exact ih6 _ _ _ _ _ _ _ _ _ _ _ _ _)
      | (with_reducible exact ih7 _ _ _ _ _ _ _ _ _ _ _ _ _)
      | (with_reducible exact bind_quoted.mono _ _ _ _ _ _ _)
      | (with_reducible exact LeO.refl _)
      | (with_reducible exact LeO.none _)
      | (with_reducible refine LeO.ite ?_ ?_)
      | (with_reducible refine LeO.bind ?_ (fun _ => ?_))
      | exact ih0 _ _ _ _ _ _ _ _ _ _ _ _
      | exact ih1 _ _ _ _ _ _ _ _ _ _ _ _ _
      | exact ih2 _ _ _ _ _ _ _ _ _ _ _ _ _ _
      | exact ih3 _ _ _ _ _ _ _ _ _ _ _ _ _ _ _
      | exact ih4 _ _ _ _ _ _ _ _ _ _ _ _ _ _ _
      | exact ih5 _ _ _ _ _ _ _ _ _ _ _ _ _ _
      | exact ih6 _ _ _ _ _ _ _ _ _ _ _ _ _
      | exact ih7 _ _ _ _ _ _ _ _ _ _ _ _ _
      | exact bind_quoted.mono _ _ _ _ _ _ _
      | exact LeO.none _
      | refine LeO.ite ?_ ?_
      | refine LeO.bind ?_ (fun _ => ?_)
    · intro y0 y1 y2 y3 y4 y5 y6 y7 y8 y9 y10 y11 y12 y13
      unfold bind_second.j5
      repeat' first
      | (with_reducible exact ih0 _ _ _ _ _ _ _ _ _ _ _ _)
      | (with_reducible exact ih1 _ _ _ _ _ _ _ _ _ _ _ _ _)
      | (with_reducible exact ih2 _ _ _ _ _ _ _ _ _ _ _ _ _ _)
      | (with_reducible exact ih3 _ _ _ _ _ _ _ _ _ _ _ _ _ _ _)
      | (with_reducible exact ih4 _ _ _ _ _ _ _ _ _ _ _ _ _ _ _)
      | (with_reducible exact ih5 _ _ _ _ _ _ _ _ _ _ _ _ _ _)
      | (with_reducible exact ih6 _ _ _ _ _ _ _ _ _ _ _ _ _)
      | (with_reducible exact ih7 _ _ _ _ _ _ _ _ _ _ _ _ _)
      | (with_reducible exact bind_quoted.mono _ _ _ _ _ _ _)
      | (with_reducible exact LeO.refl _)
      | (with_reducible exact LeO.none _)
      | (with_reducible refine LeO.ite ?_ ?_)
      | (with_reducible refine LeO.bind ?_ (fun _ => ?_))
      | exact ih0 _ _ _ _ _ _ _ _ _ _ _ _
      | exact ih1 _ _ _ _ _ _ _ _ _ _ _ _ _
      | exact ih2 _ _ _ _ _ _ _ _ _ _ _ _ _ _
      | exact ih3 _ _ _ _ _ _ _ _ _ _ _ _ _ _ _
      | exact ih4 _ _ _ _ _ _ _ _ _ _ _ _ _ _ _
      | exact ih5 _ _ _ _ _ _ _ _ _ _ _ _ _ _
      | exact ih6 _ _ _ _ _ _ _ _ _ _ _ _ _
      | exact ih7 _ _ _ _ _ _ _ _ _ _ _ _ _
      | exact bind_quoted.mono _ _ _ _ _ _ _
      | exact LeO.none _
      | refine LeO.ite ?_ ?_
      | refine LeO.bind ?_ (fun _ => ?_)
    · intro y0 y1 y2 y3 y4 y5 y6 y7 y8 y9 y10 y11 y12
      unfold bind_second.j6
      repeat' first
      | (with_reducible exact ih0 _ _ _ _ _ _ _ _ _ _ _ _)
      | (with_reducible exact ih1 _ _ _ _ _ _ _ _ _ _ _ _ _)
      | (with_reducible exact ih2 _ _ _ _ _ _ _ _ _ _ _ _ _ _)
      | (with_reducible exact ih3 _ _ _ _ _ _ _ _ _ _ _ _ _ _ _)
      | (with_reducible exact ih4 _ _ _ _ _ _ _ _ _ _ _ _ _ _ _)
      | (with_reducible exact ih5 _ _ _ _ _ _ _ _ _ _ _ _ _ _)
      | (with_reducible exact ih6 _ _ _ _ _ _ _ _ _ _ _ _ _)
      | (with_reducible exact ih7 _ _ _ _ _ _ _ _ _ _ _ _ _)
      | (with_reducible exact bind_quoted.mono _ _ _ _ _ _ _)
      | (with_reducible exact LeO.refl _)
      | (with_reducible exact LeO.none _)
      | (with_reducible refine LeO.ite ?_ ?_)
      | (with_reducible refine LeO.bind ?_ (fun _ => ?_))
      | exact ih0 _ _ _ _ _ _ _ _ _ _ _ _
      | exact ih1 _ _ _ _ _ _ _ _ _ _ _ _ _
      | exact ih2 _ _ _ _ _ _ _ _ _ _ _ _ _ _
      | exact ih3 _ _ _ _ _ _ _ _ _ _ _ _ _ _ _
      | exact ih4 _ _ _ _ _ _ _ _ _ _ _ _ _ _ _
      | exact ih5 _ _ _ _ _ _ _ _ _ _ _ _ _ _
      | exact ih6 _ _ _ _ _ _ _ _ _ _ _ _ _
      | exact ih7 _ _ _ _ _ _ _ _ _ _ _ _ _
      | exact bind_quoted.mono _ _ _ _ _ _ _
      | exact LeO.none _
      | refine LeO.ite ?_ ?_
      | refine LeO.bind ?_ (fun _ => ?_)
    · intro y0 y1 y2 y3 y4 y5 y6 y7 y8 y9 y10 y11 y12
      unfold bind_second.j7
      repeat' first
      | (with_reducible exact ih0 _ _ _ _ _ _ _ _ _ _ _ _)
      | (with_reducible exact ih1 _ _ _ _ _ _ _ _ _ _ _ _ _)
      | (with_reducible exact ih2 _ _ _ _ _ _ _ _ _ _ _ _ _ _)
      | (with_reducible exact ih3 _ _ _ _ _ _ _ _ _ _ _ _ _ _ _)
      | (with_reducible exact ih4 _ _ _ _ _ _ _ _ _ _ _ _ _ _ _)
      | (with_reducible exact ih5 _ _ _ _ _ _ _ _ _ _ _ _ _ _)
      | (with_reducible exact ih6 _ _ _ _ _ _ _ _ _ _ _ _ _)
      | (with_reducible exact ih7 _ _ _ _ _ _ _ _ _ _ _ _ _)
      | (with_reducible exact bind_quoted.mono _ _ _ _ _ _ _)
      | (with_reducible exact LeO.refl _)
      | (with_reducible exact LeO.none _)
      | (with_reducible refine LeO.ite ?_ ?_)
      | (with_reducible refine LeO.bind ?_ (fun _ => ?_))
      | exact ih0 _ _ _ _ _ _ _ _ _ _ _ _
      | exact ih1 _ _ _ _ _ _ _ _ _ _ _ _ _
      | exact ih2 _ _ _ _ _ _ _ _ _ _ _ _ _ _
      | exact ih3 _ _ _ _ _ _ _ _ _ _ _ _ _ _ _
      | exact ih4 _ _ _ _ _ _ _ _ _ _ _ _ _ _ _
      | exact ih5 _ _ _ _ _ _ _ _ _ _ _ _ _ _
      | exact ih6 _ _ _ _ _ _ _ _ _ _ _ _ _
      | exact ih7 _ _ _ _ _ _ _ _ _ _ _ _ _
      | exact bind_quoted.mono _ _ _ _ _ _ _
      | exact LeO.none _
      | refine LeO.ite ?_ ?_
      | refine LeO.bind ?_ (fun _ => ?_)
theorem bind_second.mono : ∀ a0 a1 a2 a3 a4 a5 a6 k, LeO (bind_second.f k a0 a1 a2 a3 a4 a5 a6) (bind_second.f (k + 1) a0 a1 a2 a3 a4 a5 a6) := by
 intro a0 a1 a2 a3 a4 a5 a6 k
 obtain ⟨ih0, ih1, ih2, ih3, ih4, ih5, ih6, ih7⟩ := bind_second.mono_l k
 unfold bind_second.f
 repeat' first
   | (with_reducible exact ih0 _ _ _ _ _ _ _ _ _ _ _ _)
   | (with_reducible exact ih1 _ _ _ _ _ _ _ _ _ _ _ _ _)
   | (with_reducible exact ih2 _ _ _ _ _ _ _ _ _ _ _ _ _ _)
   | (with_reducible exact ih3 _ _ _ _ _ _ _ _ _ _ _ _ _ _ _)
   | (with_reducible exact ih4 _ _ _ _ _ _ _ _ _ _ _ _ _ _ _)
   | (with_reducible exact ih5 _ _ _ _ _ _ _ _ _ _ _ _ _ _)
   | (with_reducible exact ih6 _ _ _ _ _ _ _ _ _ _ _ _ _)
   | (with_reducible exact ih7 _ _ _ _ _ _ _ _ _ _ _ _ _)
   | (with_reducible exact bind_quoted.mono _ _ _ _ _ _ _)
   | (with_reducible exact LeO.refl _)
   | (with_reducible exact LeO.none _)
   | (with_reducible refine LeO.ite ?_ ?_)
   | (with_reducible refine LeO.bind ?_ (fun _ => ?_))
   | exact ih0 _ _ _ _ _ _ _ _ _ _ _ _
   | exact ih1 _ _ _ _ _ _ _ _ _ _ _ _ _
   | exact ih2 _ _ _ _ _ _ _ _ _ _ _ _ _ _
   | exact ih3 _ _ _ _ _ _ _ _ _ _ _ _ _ _ _
   | exact ih4 _ _ _ _ _ _ _ _ _ _ _ _ _ _ _
   | exact ih5 _ _ _ _ _ _ _ _ _ _ _ _ _ _
   | exact ih6 _ _ _ _ _ _ _ _ _ _ _ _ _
   | exact ih7 _ _ _ _ _ _ _ _ _ _ _ _ _
   | exact bind_quoted.mono _ _ _ _ _ _ _
   | exact LeO.none _
   | refine LeO.ite ?_ ?_
   | refine LeO.bind ?_ (fun _ => ?_)
set_option maxHeartbeats 8000000 in
set_option maxRecDepth 100000 in
theorem bind_second.calls (k : Nat) (a0 : Int) (a1_0 : Int) (a1_1 : Int) (a1_2 : Bool) (a1_3 : Bool) (a1_4 : Bool) (a1_5 : ByteArray) (r1 : Int) (r2 : Int) (r3 : ByteArray) (r4 : Int) (w : World) (h : bind_second.f k a0 a1_0 a1_1 a1_2 a1_3 a1_4 a1_5 = some (r1, r2, r3, r4)) :
    Calls Try.prog 34 #[.int .u8 a0, .agg #[.int .i64 a1_0, .int .i32 a1_1, .bool a1_2, .bool a1_3, .bool a1_4, .string a1_5]] w fun e w' => e = .returned (.agg #[.int .i64 r1, .int .i64 r2, .string r3, .int .u8 r4]) ∧ Below w.heap.size w w' := by
 have hu25 := Try.underlying25
 have hu36 := Try.underlying36
 have HB := aM (Below.refl w.heap.size w)
 have H : (if a1_0 = 2 then (bind_second.j0 k a0 (!a1_3) a1_0 a1_1 a1_2 a1_3 a1_4 a1_5 40 1 (⟨#[]⟩ : ByteArray) 0) else (bind_second.j0 k a0 false a1_0 a1_1 a1_2 a1_3 a1_4 a1_5 40 1 (⟨#[]⟩ : ByteArray) 0)) = some (r1, r2, r3, r4) := h
 clear h
 have HC3 := aM H
 clear H
 go_enter Try.func34, Try.ntmps34
 go_upto_region 2 with (first | ((with_reducible refine gate_dst (N := 3) rfl ?_); refine box_event ?hg (N := 3) ?hd (cs := #[.int .i64 a1_0, .int .i32 a1_1, .bool a1_2, .bool a1_3, .bool a1_4, .string a1_5]) (t := 25) ?hr ?_; (case hd => rfl); (case hg => rfl); (case hr => first | (go_simp; done) | (go_simp; rfl)); intro gb189 hg w4 hbox hb; have BK189 := aM (hbox); have GW189 := aM ((by rw [hg]; exact (bwZ (by apply_rules (transparency := .reducible) [HB.1, bwA, bwN, bwD])) : w.heap.size ≤ gb189)); have GE189 := aM ((by rw [hg]; exact (bwZ (by apply_rules (transparency := .reducible) [HB.1, bwA, bwN, bwD])) : w.heap.size ≤ gb189)); replace HB := aM (bwP (by apply_rules (transparency := .reducible) [HB.1, bwA, bwN, bwD]) hb); clear hb hbox hg) | ((with_reducible refine gate_dst (N := 4) rfl ?_); refine box_event ?hg (N := 4) ?hd (cs := #[.int .i64 0, .int .i64 0, .string (⟨#[]⟩ : ByteArray), .int .u8 0]) (t := 36) ?hr ?_; (case hd => rfl); (case hg => rfl); (case hr => first | (go_simp; done) | (go_simp; rfl)); intro gb190 hg w5 hbox hb; have BK190 := aM (hbox); have GW190 := aM ((by rw [hg]; exact (bwZ (by apply_rules (transparency := .reducible) [HB.1, bwA, bwN, bwD, bwS, GE189.1])) : w.heap.size ≤ gb190)); have GE190 := aM ((by rw [hg]; exact (bwZ (by apply_rules (transparency := .reducible) [HB.1, bwA, bwN, bwD, bwS, GE189.1])) : w.heap.size ≤ gb190)); replace HB := aM (bwP (by apply_rules (transparency := .reducible) [HB.1, bwA, bwN, bwD, bwS, GE189.1]) hb); have NB189_190 := aM ((by rw [hg]; exact Nat.ne_of_lt (bkL (g := gb189) (o := .cells #[.int .i64 a1_0, .int .i32 a1_1, .bool a1_2, .bool a1_3, .bool a1_4, .string a1_5] 25 (0, 0)) (by apply_rules (transparency := .reducible) [BK189.1, bkN, bkD, bkA])) : gb189 ≠ gb190)); have NB190_189 := aM ((by rw [hg]; exact Nat.ne_of_gt (bkL (g := gb189) (o := .cells #[.int .i64 a1_0, .int .i32 a1_1, .bool a1_2, .bool a1_3, .bool a1_4, .string a1_5] 25 (0, 0)) (by apply_rules (transparency := .reducible) [BK189.1, bkN, bkD, bkA])) : gb190 ≠ gb189)); replace BK189 := aM (bkB (g := gb189) (o := .cells #[.int .i64 a1_0, .int .i32 a1_1, .bool a1_2, .bool a1_3, .bool a1_4, .string a1_5] 25 (0, 0)) (by apply_rules (transparency := .reducible) [BK189.1, bkN, bkD, bkA]) hb); clear hb hbox hg) | ((with_reducible refine gate_dst (N := 5) rfl ?_); refine box_event ?hg (N := 5) ?hd (cs := #[.int .i64 0, .int .i64 0, .string (⟨#[]⟩ : ByteArray), .int .u8 0]) (t := 36) ?hr ?_; (case hd => rfl); (case hg => rfl); (case hr => first | (go_simp; done) | (go_simp; rfl)); intro gb191 hg w6 hbox hb; have BK191 := aM (hbox); have GW191 := aM ((by rw [hg]; exact (bwZ (by apply_rules (transparency := .reducible) [HB.1, bwA, bwN, bwD, bwS, GE189.1, GE190.1])) : w.heap.size ≤ gb191)); have GE191 := aM ((by rw [hg]; exact (bwZ (by apply_rules (transparency := .reducible) [HB.1, bwA, bwN, bwD, bwS, GE189.1, GE190.1])) : w.heap.size ≤ gb191)); replace HB := aM (bwP (by apply_rules (transparency := .reducible) [HB.1, bwA, bwN, bwD, bwS, GE189.1, GE190.1]) hb); have NB189_191 := aM ((by rw [hg]; exact Nat.ne_of_lt (bkL (g := gb189) (o := .cells #[.int .i64 a1_0, .int .i32 a1_1, .bool a1_2, .bool a1_3, .bool a1_4, .string a1_5] 25 (0, 0)) (by apply_rules (transparency := .reducible) [BK189.1, bkN, bkD, bkA])) : gb189 ≠ gb191)); have NB191_189 := aM ((by rw [hg]; exact Nat.ne_of_gt (bkL (g := gb189) (o := .cells #[.int .i64 a1_0, .int .i32 a1_1, .bool a1_2, .bool a1_3, .bool a1_4, .string a1_5] 25 (0, 0)) (by apply_rules (transparency := .reducible) [BK189.1, bkN, bkD, bkA])) : gb191 ≠ gb189)); replace BK189 := aM (bkB (g := gb189) (o := .cells #[.int .i64 a1_0, .int .i32 a1_1, .bool a1_2, .bool a1_3, .bool a1_4, .string a1_5] 25 (0, 0)) (by apply_rules (transparency := .reducible) [BK189.1, bkN, bkD, bkA]) hb); have NB190_191 := aM ((by rw [hg]; exact Nat.ne_of_lt (bkL (g := gb190) (o := .cells #[.int .i64 0, .int .i64 0, .string (⟨#[]⟩ : ByteArray), .int .u8 0] 36 (0, 0)) (by apply_rules (transparency := .reducible) [BK190.1, bkN, bkD, bkA])) : gb190 ≠ gb191)); have NB191_190 := aM ((by rw [hg]; exact Nat.ne_of_gt (bkL (g := gb190) (o := .cells #[.int .i64 0, .int .i64 0, .string (⟨#[]⟩ : ByteArray), .int .u8 0] 36 (0, 0)) (by apply_rules (transparency := .reducible) [BK190.1, bkN, bkD, bkA])) : gb191 ≠ gb190)); replace BK190 := aM (bkB (g := gb190) (o := .cells #[.int .i64 0, .int .i64 0, .string (⟨#[]⟩ : ByteArray), .int .u8 0] 36 (0, 0)) (by apply_rules (transparency := .reducible) [BK190.1, bkN, bkD, bkA]) hb); clear hb hbox hg; have hnb7 := NB191_189.1; have hnc7 := NB189_191.1; have hnb8 := NB191_190.1; have hnc8 := NB190_191.1; obtain ⟨z9_0, z9_1, z9_2, z9_3, z9_4, z9_5, z9_6, z9_7⟩ := bx4 BK191.1))
 (try simp only [Act.put, List.setIfInBounds_toArray, List.set_cons_zero, List.set_cons_succ])
 go_cut [6] (fun v6 wc => ∃ (kq : Nat) (x6_2 : Bool), v6 = .bool x6_2 ∧ Aside0 (bind_second.j0 kq a0 x6_2 a1_0 a1_1 a1_2 a1_3 a1_4 a1_5 40 1 (⟨#[]⟩ : ByteArray) 0 = some (r1, r2, r3, r4)) ∧ Aside0 (kq ≤ k) ∧ Aside0 (wc.heap[gb189]? = some (.cells #[.int .i64 a1_0, .int .i32 a1_1, .bool a1_2, .bool a1_3, .bool a1_4, .string a1_5] 25 (0, 0))) ∧ Aside0 (wc.heap[gb190]? = some (.cells #[.int .i64 0, .int .i64 0, .string (⟨#[]⟩ : ByteArray), .int .u8 0] 36 (0, 0))) ∧ Aside0 (wc.heap[gb191]? = some (.cells #[.int .i64 40, .int .i64 1, .string (⟨#[]⟩ : ByteArray), .int .u8 0] 36 (0, 0))) ∧ Aside0 (Below w.heap.size w wc))
 case first =>
  have H := HC3.1
  clear HC3
  by_cases c10 : a1_0 = 2
  ·rw [if_pos c10] at H
   have c10b0 : (a1_0 == 2) = true := beq_iff_eq.mpr c10
   have c10b1 : (a1_0 != 2) = false := bne_eq_false_iff_eq.mpr c10
   clear c10
   (first | rw [c10b0] | (simp only [i64_w, i32_w]; rw [c10b0]) | skip)
   have H' := aM H
   clear H
   have hnb11 := NB189_190.1
   have hnc11 := NB190_189.1
   have hnb12 := NB189_191.1
   have hnc12 := NB191_189.1
   obtain ⟨z13_0, z13_1, z13_2, z13_3, z13_4, z13_5, z13_6, z13_7, z13_8, z13_9, z13_10, z13_11⟩ := bx6 BK189.1
   go_wp2
   go_meet
   case rel => exact ⟨_, (!a1_3), rfl, H', ⟨by omega⟩, ⟨by apply_rules (transparency := .reducible) [BK189.1, bkN, bkD, bkA, bkR, NB189_191.1]⟩, ⟨by apply_rules (transparency := .reducible) [BK190.1, bkN, bkD, bkA, bkR, NB190_191.1]⟩, ⟨by (with_reducible repeat first | apply bkN | apply bkD | apply bkA); refine put4 (cs := #[.int .i64 0, .int .i64 0, .string (⟨#[]⟩ : ByteArray), .int .u8 0]) ?_ rfl; (with_reducible repeat first | apply bkN | apply bkD | apply bkA); exact BK191.1⟩, ⟨by apply_rules (transparency := .reducible) [HB.1, bwA, bwN, bwD, bwS, GE189.1, GE190.1, GE191.1]⟩⟩
  rw [if_neg c10] at H
  have c10b0 : (a1_0 == 2) = false := beq_eq_false_iff_ne.mpr c10
  have c10b1 : (a1_0 != 2) = true := bne_iff_ne.mpr c10
  (first | rw [c10b0] | (simp only [i64_w, i32_w]; rw [c10b0]) | skip)
  have H' := aM H
  clear H
  have hnb14 := NB189_190.1
  have hnc14 := NB190_189.1
  have hnb15 := NB189_191.1
  have hnc15 := NB191_189.1
  obtain ⟨z16_0, z16_1, z16_2, z16_3, z16_4, z16_5, z16_6, z16_7, z16_8, z16_9, z16_10, z16_11⟩ := bx6 BK189.1
  go_wp2
  go_meet
  case rel => exact ⟨_, (false), rfl, H', ⟨by omega⟩, ⟨by apply_rules (transparency := .reducible) [BK189.1, bkN, bkD, bkA, bkR, NB189_191.1]⟩, ⟨by apply_rules (transparency := .reducible) [BK190.1, bkN, bkD, bkA, bkR, NB190_191.1]⟩, ⟨by (with_reducible repeat first | apply bkN | apply bkD | apply bkA); refine put4 (cs := #[.int .i64 0, .int .i64 0, .string (⟨#[]⟩ : ByteArray), .int .u8 0]) ?_ rfl; (with_reducible repeat first | apply bkN | apply bkD | apply bkA); exact BK191.1⟩, ⟨by apply_rules (transparency := .reducible) [HB.1, bwA, bwN, bwD, bwS, GE189.1, GE190.1, GE191.1]⟩⟩
 clear HC3
 try clear z9_0 z9_1 z9_2 z9_3 z9_4 z9_5 z9_6 z9_7
 obtain ⟨kq, x6_2, rfl, HA, HJ2, BK189, BK190, BK191, HB⟩ := hcut
 obtain _ | kj2 := kq
 ·exact absurd HA.1 (by simp [bind_second.j0])
 have H := HA.1
 clear HA
 simp only [bind_second.j0] at H
 have HC17 := aM H
 clear H
 go_upto_region 3 with (fail)
 go_cut [7] (fun v7 wc => ∃ (kq : Nat) (x7_16 : Bool), v7 = .bool x7_16 ∧ Aside0 (bind_second.j1 kq a0 x6_2 x7_16 a1_0 a1_1 a1_2 a1_3 a1_4 a1_5 40 1 (⟨#[]⟩ : ByteArray) 0 = some (r1, r2, r3, r4)) ∧ Aside0 (kq ≤ kj2) ∧ Aside0 (wc.heap[gb189]? = some (.cells #[.int .i64 a1_0, .int .i32 a1_1, .bool a1_2, .bool a1_3, .bool a1_4, .string a1_5] 25 (0, 0))) ∧ Aside0 (wc.heap[gb190]? = some (.cells #[.int .i64 0, .int .i64 0, .string (⟨#[]⟩ : ByteArray), .int .u8 0] 36 (0, 0))) ∧ Aside0 (wc.heap[gb191]? = some (.cells #[.int .i64 40, .int .i64 1, .string (⟨#[]⟩ : ByteArray), .int .u8 0] 36 (0, 0))) ∧ Aside0 (Below w.heap.size w wc))
 case first =>
  have H := HC17.1
  clear HC17
  by_cases c18 : a1_0 = 1
  ·rw [if_pos c18] at H
   have c18b0 : (a1_0 == 1) = true := beq_iff_eq.mpr c18
   have c18b1 : (a1_0 != 1) = false := bne_eq_false_iff_eq.mpr c18
   clear c18
   (first | rw [c18b0] | (simp only [i64_w, i32_w]; rw [c18b0]) | skip)
   by_cases c19 : a1_2 = true
   ·subst c19
    replace H : (bind_second.j1 kj2 a0 x6_2 false a1_0 a1_1 true a1_3 a1_4 a1_5 40 1 (⟨#[]⟩ : ByteArray) 0) = some (r1, r2, r3, r4) := by rw [if_pos rfl] at H; exact H
    have H' := aM H
    clear H
    have hnb20 := NB189_190.1
    have hnc20 := NB190_189.1
    have hnb21 := NB189_191.1
    have hnc21 := NB191_189.1
    obtain ⟨z22_0, z22_1, z22_2, z22_3, z22_4, z22_5, z22_6, z22_7, z22_8, z22_9, z22_10, z22_11⟩ := bx6 BK189.1
    go_wp2
    go_meet
    case rel => exact ⟨_, (false), rfl, H', ⟨by have := HJ2.1; first | omega | exact Nat.le_refl _⟩, ⟨by apply_rules (transparency := .reducible) [BK189.1, bkN, bkD, bkA]⟩, ⟨by apply_rules (transparency := .reducible) [BK190.1, bkN, bkD, bkA]⟩, ⟨by apply_rules (transparency := .reducible) [BK191.1, bkN, bkD, bkA]⟩, ⟨by apply_rules (transparency := .reducible) [HB.1, bwA, bwN, bwD, bwS, GE189.1, GE190.1, GE191.1]⟩⟩
   replace c19 := Bool.eq_false_iff.mpr c19
   subst c19
   replace H : (bind_second.j1 kj2 a0 x6_2 (!a1_3) a1_0 a1_1 false a1_3 a1_4 a1_5 40 1 (⟨#[]⟩ : ByteArray) 0) = some (r1, r2, r3, r4) := by rw [if_neg (show ¬ (false = true) by decide)] at H; exact H
   have H' := aM H
   clear H
   have hnb23 := NB189_190.1
   have hnc23 := NB190_189.1
   have hnb24 := NB189_191.1
   have hnc24 := NB191_189.1
   obtain ⟨z25_0, z25_1, z25_2, z25_3, z25_4, z25_5, z25_6, z25_7, z25_8, z25_9, z25_10, z25_11⟩ := bx6 BK189.1
   go_wp2
   go_meet
   case rel => exact ⟨_, (!a1_3), rfl, H', ⟨by have := HJ2.1; first | omega | exact Nat.le_refl _⟩, ⟨by apply_rules (transparency := .reducible) [BK189.1, bkN, bkD, bkA]⟩, ⟨by apply_rules (transparency := .reducible) [BK190.1, bkN, bkD, bkA]⟩, ⟨by apply_rules (transparency := .reducible) [BK191.1, bkN, bkD, bkA]⟩, ⟨by apply_rules (transparency := .reducible) [HB.1, bwA, bwN, bwD, bwS, GE189.1, GE190.1, GE191.1]⟩⟩
  rw [if_neg c18] at H
  have c18b0 : (a1_0 == 1) = false := beq_eq_false_iff_ne.mpr c18
  have c18b1 : (a1_0 != 1) = true := bne_iff_ne.mpr c18
  (first | rw [c18b0] | (simp only [i64_w, i32_w]; rw [c18b0]) | skip)
  have H' := aM H
  clear H
  have hnb26 := NB189_190.1
  have hnc26 := NB190_189.1
  have hnb27 := NB189_191.1
  have hnc27 := NB191_189.1
  obtain ⟨z28_0, z28_1, z28_2, z28_3, z28_4, z28_5, z28_6, z28_7, z28_8, z28_9, z28_10, z28_11⟩ := bx6 BK189.1
  go_wp2
  go_meet
  case rel => exact ⟨_, (false), rfl, H', ⟨by have := HJ2.1; first | omega | exact Nat.le_refl _⟩, ⟨by apply_rules (transparency := .reducible) [BK189.1, bkN, bkD, bkA]⟩, ⟨by apply_rules (transparency := .reducible) [BK190.1, bkN, bkD, bkA]⟩, ⟨by apply_rules (transparency := .reducible) [BK191.1, bkN, bkD, bkA]⟩, ⟨by apply_rules (transparency := .reducible) [HB.1, bwA, bwN, bwD, bwS, GE189.1, GE190.1, GE191.1]⟩⟩
 clear HC17
 try clear z9_0 z9_1 z9_2 z9_3 z9_4 z9_5 z9_6 z9_7
 obtain ⟨kq, x7_16, rfl, HA, HJ16, BK189, BK190, BK191, HB⟩ := hcut
 obtain _ | kj16 := kq
 ·exact absurd HA.1 (by simp [bind_second.j1])
 have H := HA.1
 clear HA
 simp only [bind_second.j1] at H
 have HC29 := aM H
 clear H
 go_upto_region 4 with (fail)
 go_cut [8] (fun v8 wc => ∃ (kq : Nat) (x8_28 : Bool), v8 = .bool x8_28 ∧ Aside0 (bind_second.j2 kq a0 x6_2 x7_16 x8_28 a1_0 a1_1 a1_2 a1_3 a1_4 a1_5 40 1 (⟨#[]⟩ : ByteArray) 0 = some (r1, r2, r3, r4)) ∧ Aside0 (kq ≤ kj16) ∧ Aside0 (wc.heap[gb189]? = some (.cells #[.int .i64 a1_0, .int .i32 a1_1, .bool a1_2, .bool a1_3, .bool a1_4, .string a1_5] 25 (0, 0))) ∧ Aside0 (wc.heap[gb190]? = some (.cells #[.int .i64 0, .int .i64 0, .string (⟨#[]⟩ : ByteArray), .int .u8 0] 36 (0, 0))) ∧ Aside0 (wc.heap[gb191]? = some (.cells #[.int .i64 40, .int .i64 1, .string (⟨#[]⟩ : ByteArray), .int .u8 0] 36 (0, 0))) ∧ Aside0 (Below w.heap.size w wc))
 case first =>
  have H := HC29.1
  clear HC29
  by_cases c30 : x7_16 = true
  ·subst c30
   replace H : (if a1_1 = 64 then (bind_second.j2 kj16 a0 x6_2 true true a1_0 a1_1 a1_2 a1_3 a1_4 a1_5 40 1 (⟨#[]⟩ : ByteArray) 0) else (if a1_1 ≥ 97 then (bind_second.j2 kj16 a0 x6_2 true (decide (a1_1 ≤ 122)) a1_0 a1_1 a1_2 a1_3 a1_4 a1_5 40 1 (⟨#[]⟩ : ByteArray) 0) else (bind_second.j2 kj16 a0 x6_2 true false a1_0 a1_1 a1_2 a1_3 a1_4 a1_5 40 1 (⟨#[]⟩ : ByteArray) 0))) = some (r1, r2, r3, r4) := by rw [if_pos rfl] at H; exact H
   by_cases c31 : a1_1 = 64
   ·rw [if_pos c31] at H
    have c31b0 : (a1_1 == 64) = true := beq_iff_eq.mpr c31
    have c31b1 : (a1_1 != 64) = false := bne_eq_false_iff_eq.mpr c31
    clear c31
    (first | rw [c31b0] | (simp only [i64_w, i32_w]; rw [c31b0]) | skip)
    have H' := aM H
    clear H
    have hnb32 := NB189_190.1
    have hnc32 := NB190_189.1
    have hnb33 := NB189_191.1
    have hnc33 := NB191_189.1
    obtain ⟨z34_0, z34_1, z34_2, z34_3, z34_4, z34_5, z34_6, z34_7, z34_8, z34_9, z34_10, z34_11⟩ := bx6 BK189.1
    go_wp2
    go_meet
    case rel => exact ⟨_, (true), rfl, H', ⟨by have := HJ2.1; have := HJ16.1; first | omega | exact Nat.le_refl _⟩, ⟨by apply_rules (transparency := .reducible) [BK189.1, bkN, bkD, bkA]⟩, ⟨by apply_rules (transparency := .reducible) [BK190.1, bkN, bkD, bkA]⟩, ⟨by apply_rules (transparency := .reducible) [BK191.1, bkN, bkD, bkA]⟩, ⟨by apply_rules (transparency := .reducible) [HB.1, bwA, bwN, bwD, bwS, GE189.1, GE190.1, GE191.1]⟩⟩
   rw [if_neg c31] at H
   have c31b0 : (a1_1 == 64) = false := beq_eq_false_iff_ne.mpr c31
   have c31b1 : (a1_1 != 64) = true := bne_iff_ne.mpr c31
   (first | rw [c31b0] | (simp only [i64_w, i32_w]; rw [c31b0]) | skip)
   by_cases c35 : a1_1 ≥ 97
   ·rw [if_pos c35] at H
    have c35b0 : decide (97 ≤ a1_1) = true := decide_eq_true c35
    clear c35
    have H' := aM H
    clear H
    have hnb36 := NB189_190.1
    have hnc36 := NB190_189.1
    have hnb37 := NB189_191.1
    have hnc37 := NB191_189.1
    obtain ⟨z38_0, z38_1, z38_2, z38_3, z38_4, z38_5, z38_6, z38_7, z38_8, z38_9, z38_10, z38_11⟩ := bx6 BK189.1
    go_wp2
    go_meet
    case rel => exact ⟨_, (decide (a1_1 ≤ 122)), rfl, H', ⟨by have := HJ2.1; have := HJ16.1; first | omega | exact Nat.le_refl _⟩, ⟨by apply_rules (transparency := .reducible) [BK189.1, bkN, bkD, bkA]⟩, ⟨by apply_rules (transparency := .reducible) [BK190.1, bkN, bkD, bkA]⟩, ⟨by apply_rules (transparency := .reducible) [BK191.1, bkN, bkD, bkA]⟩, ⟨by apply_rules (transparency := .reducible) [HB.1, bwA, bwN, bwD, bwS, GE189.1, GE190.1, GE191.1]⟩⟩
   rw [if_neg c35] at H
   have c35b0 : decide (97 ≤ a1_1) = false := decide_eq_false c35
   clear c35
   have H' := aM H
   clear H
   have hnb39 := NB189_190.1
   have hnc39 := NB190_189.1
   have hnb40 := NB189_191.1
   have hnc40 := NB191_189.1
   obtain ⟨z41_0, z41_1, z41_2, z41_3, z41_4, z41_5, z41_6, z41_7, z41_8, z41_9, z41_10, z41_11⟩ := bx6 BK189.1
   go_wp2
   go_meet
   case rel => exact ⟨_, (false), rfl, H', ⟨by have := HJ2.1; have := HJ16.1; first | omega | exact Nat.le_refl _⟩, ⟨by apply_rules (transparency := .reducible) [BK189.1, bkN, bkD, bkA]⟩, ⟨by apply_rules (transparency := .reducible) [BK190.1, bkN, bkD, bkA]⟩, ⟨by apply_rules (transparency := .reducible) [BK191.1, bkN, bkD, bkA]⟩, ⟨by apply_rules (transparency := .reducible) [HB.1, bwA, bwN, bwD, bwS, GE189.1, GE190.1, GE191.1]⟩⟩
  replace c30 := Bool.eq_false_iff.mpr c30
  subst c30
  replace H : (bind_second.j2 kj16 a0 x6_2 false false a1_0 a1_1 a1_2 a1_3 a1_4 a1_5 40 1 (⟨#[]⟩ : ByteArray) 0) = some (r1, r2, r3, r4) := by rw [if_neg (show ¬ (false = true) by decide)] at H; exact H
  have H' := aM H
  clear H
  go_wp2
  go_meet
  case rel => exact ⟨_, (false), rfl, H', ⟨by have := HJ2.1; have := HJ16.1; first | omega | exact Nat.le_refl _⟩, ⟨by apply_rules (transparency := .reducible) [BK189.1, bkN, bkD, bkA]⟩, ⟨by apply_rules (transparency := .reducible) [BK190.1, bkN, bkD, bkA]⟩, ⟨by apply_rules (transparency := .reducible) [BK191.1, bkN, bkD, bkA]⟩, ⟨by apply_rules (transparency := .reducible) [HB.1, bwA, bwN, bwD, bwS, GE189.1, GE190.1, GE191.1]⟩⟩
 clear HC29
 try clear z9_0 z9_1 z9_2 z9_3 z9_4 z9_5 z9_6 z9_7
 obtain ⟨kq, x8_28, rfl, HA, HJ28, BK189, BK190, BK191, HB⟩ := hcut
 obtain _ | kj28 := kq
 ·exact absurd HA.1 (by simp [bind_second.j2])
 have H := HA.1
 clear HA
 simp only [bind_second.j2] at H
 by_cases c42 : a0 = 113
 ·rw [if_pos c42] at H
  have c42b0 : (a0 == 113) = true := beq_iff_eq.mpr c42
  have c42b1 : (a0 != 113) = false := bne_eq_false_iff_eq.mpr c42
  clear c42
  replace H := Option.bind_eq_some_iff.mp H
  obtain ⟨⟨t192, t193⟩, A430, H⟩ := H
  replace H : (if t193 = true then ((bind_inserts.f t192).bind fun bt194 => (some (bt194.1, bt194.2.1, bt194.2.2.1, bt194.2.2.2))) else (some (40, 1, (⟨#[]⟩ : ByteArray), 0))) = some (r1, r2, r3, r4) := H
  have A43 := aM A430
  clear A430
  by_cases c44 : t193 = true
  ·subst c44
   replace H : ((bind_inserts.f t192).bind fun bt194 => (some (bt194.1, bt194.2.1, bt194.2.2.1, bt194.2.2.2))) = some (r1, r2, r3, r4) := by rw [if_pos rfl] at H; exact H
   replace H := Option.bind_eq_some_iff.mp H
   obtain ⟨⟨t194, t195, t196, t197⟩, A450, H⟩ := H
   replace H : (some (t194, t195, t196, t197)) = some (r1, r2, r3, r4) := H
   have A45 := aM A450
   clear A450
   simp only [Option.some.injEq, Prod.mk.injEq] at H
   obtain ⟨rfl, rfl, rfl, rfl⟩ := H
   have hnb46 := NB189_190.1
   have hnc46 := NB190_189.1
   have hnb47 := NB189_191.1
   have hnc47 := NB191_189.1
   obtain ⟨z48_0, z48_1, z48_2, z48_3, z48_4, z48_5, z48_6, z48_7, z48_8, z48_9, z48_10, z48_11⟩ := bx6 BK189.1
   go_wp2_with (first | ((with_reducible refine gate_callee (f := 49) rfl ?_); refine goesL_ (some 54) rfl rfl Try.func49 (by kernel_rfl) rfl #[.agg #[.int .i64 a1_0, .int .i32 a1_1, .bool a1_2, .bool a1_3, .bool a1_4, .string a1_5]] rfl (by (try simp only [List.map_toArray, List.map_cons, List.map_nil]); first | done | rfl) ?_; (with_reducible refine (bind_quoted.calls kj28 a1_0 a1_1 a1_2 a1_3 a1_4 a1_5 t192 true _ A43.1).mono ?_); rintro e w49 ⟨rfl, hb⟩; refine ⟨_, rfl, ?_⟩; replace BK189 := aM (bkB (g := gb189) (o := .cells #[.int .i64 a1_0, .int .i32 a1_1, .bool a1_2, .bool a1_3, .bool a1_4, .string a1_5] 25 (0, 0)) (by apply_rules (transparency := .reducible) [BK189.1, bkN, bkD, bkA]) hb); replace BK190 := aM (bkB (g := gb190) (o := .cells #[.int .i64 0, .int .i64 0, .string (⟨#[]⟩ : ByteArray), .int .u8 0] 36 (0, 0)) (by apply_rules (transparency := .reducible) [BK190.1, bkN, bkD, bkA]) hb); replace BK191 := aM (bkB (g := gb191) (o := .cells #[.int .i64 40, .int .i64 1, .string (⟨#[]⟩ : ByteArray), .int .u8 0] 36 (0, 0)) (by apply_rules (transparency := .reducible) [BK191.1, bkN, bkD, bkA]) hb); replace HB := aM (bwP (by apply_rules (transparency := .reducible) [HB.1, bwA, bwN, bwD, bwS, GE189.1, GE190.1, GE191.1]) hb); (try clear hb); (try clear hb2); (try clear hk); (try clear hi)) | ((with_reducible refine gate_callee (f := 43) rfl ?_); refine goesL_ (some 59) rfl rfl Try.func43 (by kernel_rfl) rfl #[.string t192] rfl (by (try simp only [List.map_toArray, List.map_cons, List.map_nil]); first | done | rfl) ?_; (with_reducible refine (bind_inserts.calls t192 t194 t195 t196 t197 _ A45.1).mono ?_); rintro e w50 ⟨rfl, hb⟩; refine ⟨_, rfl, ?_⟩; replace BK189 := aM (bkB (g := gb189) (o := .cells #[.int .i64 a1_0, .int .i32 a1_1, .bool a1_2, .bool a1_3, .bool a1_4, .string a1_5] 25 (0, 0)) (by apply_rules (transparency := .reducible) [BK189.1, bkN, bkD, bkA]) hb); replace BK190 := aM (bkB (g := gb190) (o := .cells #[.int .i64 0, .int .i64 0, .string (⟨#[]⟩ : ByteArray), .int .u8 0] 36 (0, 0)) (by apply_rules (transparency := .reducible) [BK190.1, bkN, bkD, bkA]) hb); replace BK191 := aM (bkB (g := gb191) (o := .cells #[.int .i64 40, .int .i64 1, .string (⟨#[]⟩ : ByteArray), .int .u8 0] 36 (0, 0)) (by apply_rules (transparency := .reducible) [BK191.1, bkN, bkD, bkA]) hb); replace HB := aM (bwP (by apply_rules (transparency := .reducible) [HB.1, bwA, bwN, bwD, bwS, GE189.1, GE190.1, GE191.1]) hb); (try clear hb); (try clear hb2); (try clear hk); (try clear hi); have hnb51 := NB191_190.1; have hnc51 := NB190_191.1; obtain ⟨z52_0, z52_1, z52_2, z52_3, z52_4, z52_5, z52_6, z52_7⟩ := bx4 BK191.1; obtain ⟨z53_0, z53_1, z53_2, z53_3, z53_4, z53_5, z53_6, z53_7⟩ := bx4 BK190.1))
   refine bodyPost_ret (results_cell_row rfl _ _ gb190 36 #[.int .i64 t194, .int .i64 t195, .string t196, .int .u8 t197] (0, 0) _ rfl (by (with_reducible repeat first | apply bkN | apply bkD | apply bkA); refine put4 (cs := #[.int .i64 0, .int .i64 0, .string (⟨#[]⟩ : ByteArray), .int .u8 0]) ?_ rfl; (with_reducible repeat first | apply bkN | apply bkD | apply bkA); refine bkR ?_ NB190_191.1 _; (with_reducible repeat first | apply bkN | apply bkD | apply bkA); refine bkR ?_ NB190_191.1 _; (with_reducible repeat first | apply bkN | apply bkD | apply bkA); refine bkR ?_ NB190_191.1 _; (with_reducible repeat first | apply bkN | apply bkD | apply bkA); refine bkR ?_ NB190_191.1 _; (with_reducible repeat first | apply bkN | apply bkD | apply bkA); exact BK190.1) Try.underlying36 rfl (by kernel_rfl)) rfl ?_
   exact ⟨rfl, by apply_rules (transparency := .reducible) [HB.1, bwA, bwN, bwD, bwS, GE189.1, GE190.1, GE191.1]⟩
  replace c44 := Bool.eq_false_iff.mpr c44
  subst c44
  replace H : (some (40, 1, (⟨#[]⟩ : ByteArray), 0)) = some (r1, r2, r3, r4) := by rw [if_neg (show ¬ (false = true) by decide)] at H; exact H
  simp only [Option.some.injEq, Prod.mk.injEq] at H
  obtain ⟨rfl, rfl, rfl, rfl⟩ := H
  have hnb54 := NB189_190.1
  have hnc54 := NB190_189.1
  have hnb55 := NB189_191.1
  have hnc55 := NB191_189.1
  obtain ⟨z56_0, z56_1, z56_2, z56_3, z56_4, z56_5, z56_6, z56_7, z56_8, z56_9, z56_10, z56_11⟩ := bx6 BK189.1
  go_wp2_with (first | ((with_reducible refine gate_callee (f := 49) rfl ?_); refine goesL_ (some 54) rfl rfl Try.func49 (by kernel_rfl) rfl #[.agg #[.int .i64 a1_0, .int .i32 a1_1, .bool a1_2, .bool a1_3, .bool a1_4, .string a1_5]] rfl (by (try simp only [List.map_toArray, List.map_cons, List.map_nil]); first | done | rfl) ?_; (with_reducible refine (bind_quoted.calls kj28 a1_0 a1_1 a1_2 a1_3 a1_4 a1_5 t192 false _ A43.1).mono ?_); rintro e w57 ⟨rfl, hb⟩; refine ⟨_, rfl, ?_⟩; replace BK189 := aM (bkB (g := gb189) (o := .cells #[.int .i64 a1_0, .int .i32 a1_1, .bool a1_2, .bool a1_3, .bool a1_4, .string a1_5] 25 (0, 0)) (by apply_rules (transparency := .reducible) [BK189.1, bkN, bkD, bkA]) hb); replace BK190 := aM (bkB (g := gb190) (o := .cells #[.int .i64 0, .int .i64 0, .string (⟨#[]⟩ : ByteArray), .int .u8 0] 36 (0, 0)) (by apply_rules (transparency := .reducible) [BK190.1, bkN, bkD, bkA]) hb); replace BK191 := aM (bkB (g := gb191) (o := .cells #[.int .i64 40, .int .i64 1, .string (⟨#[]⟩ : ByteArray), .int .u8 0] 36 (0, 0)) (by apply_rules (transparency := .reducible) [BK191.1, bkN, bkD, bkA]) hb); replace HB := aM (bwP (by apply_rules (transparency := .reducible) [HB.1, bwA, bwN, bwD, bwS, GE189.1, GE190.1, GE191.1]) hb); (try clear hb); (try clear hb2); (try clear hk); (try clear hi); have hnb58 := NB191_190.1; have hnc58 := NB190_191.1; obtain ⟨z59_0, z59_1, z59_2, z59_3, z59_4, z59_5, z59_6, z59_7⟩ := bx4 BK191.1; obtain ⟨z60_0, z60_1, z60_2, z60_3, z60_4, z60_5, z60_6, z60_7⟩ := bx4 BK190.1))
  refine bodyPost_ret (results_cell_row rfl _ _ gb190 36 #[.int .i64 40, .int .i64 1, .string (⟨#[]⟩ : ByteArray), .int .u8 0] (0, 0) _ rfl (by (with_reducible repeat first | apply bkN | apply bkD | apply bkA); refine put4 (cs := #[.int .i64 0, .int .i64 0, .string (⟨#[]⟩ : ByteArray), .int .u8 0]) ?_ rfl; (with_reducible repeat first | apply bkN | apply bkD | apply bkA); exact BK190.1) Try.underlying36 rfl (by kernel_rfl)) rfl ?_
  exact ⟨rfl, by apply_rules (transparency := .reducible) [HB.1, bwA, bwN, bwD, bwS, GE189.1, GE190.1, GE191.1]⟩
 rw [if_neg c42] at H
 have c42b0 : (a0 == 113) = false := beq_eq_false_iff_ne.mpr c42
 have c42b1 : (a0 != 113) = true := bne_iff_ne.mpr c42
 have HC61 := aM H
 clear H
 go_upto_region 9 with (fail)
 go_cut [60] (fun v60 wc => ∃ (kq : Nat) (x60_60 : Bool), v60 = .bool x60_60 ∧ Aside0 (bind_second.j3 kq a0 x6_2 x7_16 x8_28 x60_60 a1_0 a1_1 a1_2 a1_3 a1_4 a1_5 40 1 (⟨#[]⟩ : ByteArray) 0 = some (r1, r2, r3, r4)) ∧ Aside0 (kq ≤ kj28) ∧ Aside0 (wc.heap[gb189]? = some (.cells #[.int .i64 a1_0, .int .i32 a1_1, .bool a1_2, .bool a1_3, .bool a1_4, .string a1_5] 25 (0, 0))) ∧ Aside0 (wc.heap[gb190]? = some (.cells #[.int .i64 0, .int .i64 0, .string (⟨#[]⟩ : ByteArray), .int .u8 0] 36 (0, 0))) ∧ Aside0 (wc.heap[gb191]? = some (.cells #[.int .i64 40, .int .i64 1, .string (⟨#[]⟩ : ByteArray), .int .u8 0] 36 (0, 0))) ∧ Aside0 (Below w.heap.size w wc))
 case first =>
  have H := HC61.1
  clear HC61
  by_cases c62 : x6_2 = true
  ·subst c62
   replace H : (bind_second.j3 kj28 a0 true x7_16 x8_28 (a1_1 == 71) a1_0 a1_1 a1_2 a1_3 a1_4 a1_5 40 1 (⟨#[]⟩ : ByteArray) 0) = some (r1, r2, r3, r4) := by rw [if_pos rfl] at H; exact H
   have H' := aM H
   clear H
   have hnb63 := NB189_190.1
   have hnc63 := NB190_189.1
   have hnb64 := NB189_191.1
   have hnc64 := NB191_189.1
   obtain ⟨z65_0, z65_1, z65_2, z65_3, z65_4, z65_5, z65_6, z65_7, z65_8, z65_9, z65_10, z65_11⟩ := bx6 BK189.1
   go_wp2
   go_meet
   case rel => exact ⟨_, ((a1_1 == 71)), rfl, H', ⟨by have := HJ2.1; have := HJ16.1; have := HJ28.1; first | omega | exact Nat.le_refl _⟩, ⟨by apply_rules (transparency := .reducible) [BK189.1, bkN, bkD, bkA]⟩, ⟨by apply_rules (transparency := .reducible) [BK190.1, bkN, bkD, bkA]⟩, ⟨by apply_rules (transparency := .reducible) [BK191.1, bkN, bkD, bkA]⟩, ⟨by apply_rules (transparency := .reducible) [HB.1, bwA, bwN, bwD, bwS, GE189.1, GE190.1, GE191.1]⟩⟩
  replace c62 := Bool.eq_false_iff.mpr c62
  subst c62
  replace H : (bind_second.j3 kj28 a0 false x7_16 x8_28 false a1_0 a1_1 a1_2 a1_3 a1_4 a1_5 40 1 (⟨#[]⟩ : ByteArray) 0) = some (r1, r2, r3, r4) := by rw [if_neg (show ¬ (false = true) by decide)] at H; exact H
  have H' := aM H
  clear H
  go_wp2
  go_meet
  case rel => exact ⟨_, (false), rfl, H', ⟨by have := HJ2.1; have := HJ16.1; have := HJ28.1; first | omega | exact Nat.le_refl _⟩, ⟨by apply_rules (transparency := .reducible) [BK189.1, bkN, bkD, bkA]⟩, ⟨by apply_rules (transparency := .reducible) [BK190.1, bkN, bkD, bkA]⟩, ⟨by apply_rules (transparency := .reducible) [BK191.1, bkN, bkD, bkA]⟩, ⟨by apply_rules (transparency := .reducible) [HB.1, bwA, bwN, bwD, bwS, GE189.1, GE190.1, GE191.1]⟩⟩
 clear HC61
 try clear c42
 try clear c42b0
 try clear c42b1
 try clear z9_0 z9_1 z9_2 z9_3 z9_4 z9_5 z9_6 z9_7
 obtain ⟨kq, x60_60, rfl, HA, HJ60, BK189, BK190, BK191, HB⟩ := hcut
 obtain _ | kj60 := kq
 ·exact absurd HA.1 (by simp [bind_second.j3])
 have H := HA.1
 clear HA
 simp only [bind_second.j3] at H
 by_cases c66 : x60_60 = true
 ·subst c66
  replace H : (some (37, 1, (⟨#[]⟩ : ByteArray), 0)) = some (r1, r2, r3, r4) := by rw [if_pos rfl] at H; exact H
  simp only [Option.some.injEq, Prod.mk.injEq] at H
  obtain ⟨rfl, rfl, rfl, rfl⟩ := H
  have hnb67 := NB191_189.1
  have hnc67 := NB189_191.1
  have hnb68 := NB191_190.1
  have hnc68 := NB190_191.1
  obtain ⟨z69_0, z69_1, z69_2, z69_3, z69_4, z69_5, z69_6, z69_7⟩ := bx4 BK191.1
  have hnb70 := NB190_189.1
  have hnc70 := NB189_190.1
  obtain ⟨z71_0, z71_1, z71_2, z71_3, z71_4, z71_5, z71_6, z71_7⟩ := bx4 BK190.1
  go_wp2
  refine bodyPost_ret (results_cell_row rfl _ _ gb190 36 #[.int .i64 37, .int .i64 1, .string (⟨#[]⟩ : ByteArray), .int .u8 0] (0, 0) _ rfl (by (with_reducible repeat first | apply bkN | apply bkD | apply bkA); refine put4 (cs := #[.int .i64 0, .int .i64 0, .string (⟨#[]⟩ : ByteArray), .int .u8 0]) ?_ rfl; (with_reducible repeat first | apply bkN | apply bkD | apply bkA); refine bkR ?_ NB190_191.1 _; (with_reducible repeat first | apply bkN | apply bkD | apply bkA); exact BK190.1) Try.underlying36 rfl (by kernel_rfl)) rfl ?_
  exact ⟨rfl, by apply_rules (transparency := .reducible) [HB.1, bwA, bwN, bwD, bwS, GE189.1, GE190.1, GE191.1]⟩
 replace c66 := Bool.eq_false_iff.mpr c66
 subst c66
 replace H : (if a0 = 109 then (bind_second.j4 kj60 a0 x6_2 x7_16 x8_28 x8_28 a1_0 a1_1 a1_2 a1_3 a1_4 a1_5 40 1 (⟨#[]⟩ : ByteArray) 0) else (bind_second.j4 kj60 a0 x6_2 x7_16 x8_28 false a1_0 a1_1 a1_2 a1_3 a1_4 a1_5 40 1 (⟨#[]⟩ : ByteArray) 0)) = some (r1, r2, r3, r4) := by rw [if_neg (show ¬ (false = true) by decide)] at H; exact H
 have HC72 := aM H
 clear H
 go_upto_region 11 with (fail)
 go_cut [68] (fun v68 wc => ∃ (kq : Nat) (x68_71 : Bool), v68 = .bool x68_71 ∧ Aside0 (bind_second.j4 kq a0 x6_2 x7_16 x8_28 x68_71 a1_0 a1_1 a1_2 a1_3 a1_4 a1_5 40 1 (⟨#[]⟩ : ByteArray) 0 = some (r1, r2, r3, r4)) ∧ Aside0 (kq ≤ kj60) ∧ Aside0 (wc.heap[gb189]? = some (.cells #[.int .i64 a1_0, .int .i32 a1_1, .bool a1_2, .bool a1_3, .bool a1_4, .string a1_5] 25 (0, 0))) ∧ Aside0 (wc.heap[gb190]? = some (.cells #[.int .i64 0, .int .i64 0, .string (⟨#[]⟩ : ByteArray), .int .u8 0] 36 (0, 0))) ∧ Aside0 (wc.heap[gb191]? = some (.cells #[.int .i64 40, .int .i64 1, .string (⟨#[]⟩ : ByteArray), .int .u8 0] 36 (0, 0))) ∧ Aside0 (Below w.heap.size w wc))
 case first =>
  have H := HC72.1
  clear HC72
  by_cases c73 : a0 = 109
  ·rw [if_pos c73] at H
   have c73b0 : (a0 == 109) = true := beq_iff_eq.mpr c73
   have c73b1 : (a0 != 109) = false := bne_eq_false_iff_eq.mpr c73
   clear c73
   (first | rw [c73b0] | (simp only [i64_w, i32_w]; rw [c73b0]) | skip)
   have H' := aM H
   clear H
   go_wp2
   go_meet
   case rel => exact ⟨_, (x8_28), rfl, H', ⟨by have := HJ2.1; have := HJ16.1; have := HJ28.1; have := HJ60.1; first | omega | exact Nat.le_refl _⟩, ⟨by apply_rules (transparency := .reducible) [BK189.1, bkN, bkD, bkA]⟩, ⟨by apply_rules (transparency := .reducible) [BK190.1, bkN, bkD, bkA]⟩, ⟨by apply_rules (transparency := .reducible) [BK191.1, bkN, bkD, bkA]⟩, ⟨by apply_rules (transparency := .reducible) [HB.1, bwA, bwN, bwD, bwS, GE189.1, GE190.1, GE191.1]⟩⟩
  rw [if_neg c73] at H
  have c73b0 : (a0 == 109) = false := beq_eq_false_iff_ne.mpr c73
  have c73b1 : (a0 != 109) = true := bne_iff_ne.mpr c73
  (first | rw [c73b0] | (simp only [i64_w, i32_w]; rw [c73b0]) | skip)
  have H' := aM H
  clear H
  go_wp2
  go_meet
  case rel => exact ⟨_, (false), rfl, H', ⟨by have := HJ2.1; have := HJ16.1; have := HJ28.1; have := HJ60.1; first | omega | exact Nat.le_refl _⟩, ⟨by apply_rules (transparency := .reducible) [BK189.1, bkN, bkD, bkA]⟩, ⟨by apply_rules (transparency := .reducible) [BK190.1, bkN, bkD, bkA]⟩, ⟨by apply_rules (transparency := .reducible) [BK191.1, bkN, bkD, bkA]⟩, ⟨by apply_rules (transparency := .reducible) [HB.1, bwA, bwN, bwD, bwS, GE189.1, GE190.1, GE191.1]⟩⟩
 clear HC72
 try clear c42
 try clear c42b0
 try clear c42b1
 try clear c66
 try clear z9_0 z9_1 z9_2 z9_3 z9_4 z9_5 z9_6 z9_7
 obtain ⟨kq, x68_71, rfl, HA, HJ71, BK189, BK190, BK191, HB⟩ := hcut
 obtain _ | kj71 := kq
 ·exact absurd HA.1 (by simp [bind_second.j4])
 have H := HA.1
 clear HA
 simp only [bind_second.j4] at H
 by_cases c74 : x68_71 = true
 ·subst c74
  replace H : (some (29, 1, (⟨#[]⟩ : ByteArray), (a1_1) % 256)) = some (r1, r2, r3, r4) := by rw [if_pos rfl] at H; exact H
  simp only [Option.some.injEq, Prod.mk.injEq] at H
  obtain ⟨rfl, rfl, rfl, rfl⟩ := H
  try go_wp2
  replace BK189 := aM (bkD BK189.1)
  replace BK190 := aM (bkD BK190.1)
  replace BK191 := aM (bkD BK191.1)
  replace HB := aM (bwD HB.1)
  refine start_ (n := 7) (S := fun w' => w'.cell? ⟨gb189, 0, none⟩ = some (.int .i64 a1_0) ∧ w'.cell? ⟨gb189, 1, none⟩ = some (.int .i32 a1_1) ∧ w'.cell? ⟨gb189, 2, none⟩ = some (.bool a1_2) ∧ w'.cell? ⟨gb189, 3, none⟩ = some (.bool a1_3) ∧ w'.cell? ⟨gb189, 4, none⟩ = some (.bool a1_4) ∧ w'.cell? ⟨gb189, 5, none⟩ = some (.string a1_5)) (ds := []) #[false, false, false, false, false, false, false] (by kernel_rfl) rfl rfl ⟨(bkC BK189.1 0).trans rfl, (bkC BK189.1 1).trans rfl, (bkC BK189.1 2).trans rfl, (bkC BK189.1 3).trans rfl, (bkC BK189.1 4).trans rfl, (bkC BK189.1 5).trans rfl⟩ (fun hHeld => ?_)
  generalize wc.drew = w75 at BK189 BK190 BK191 HB hHeld ⊢
  refine pure_ (i := 0) (N := some 74) (v := ?_) (a' := ?_) #[true, false, false, false, false, false, false] rfl rfl (by kernel_rfl) (fun _ _ _ h => h) (Or.inl ⟨by rfl, ?_⟩) ?_ ?_
  rotate_left
  ·intro w'
   go_simp
   with_reducible rfl
  rotate_left
  ·simp only [Act.put, List.setIfInBounds_toArray, List.set_cons_zero, List.set_cons_succ, i64_w, i32_w]
   rfl
  refine pure_ (i := 3) (N := some 77) (v := ?_) (a' := ?_) #[true, false, false, true, false, false, false] rfl rfl (by kernel_rfl) (fun _ _ _ h => h) (Or.inl ⟨by rfl, ?_⟩) ?_ ?_
  rotate_left
  ·intro w'
   go_simp
   with_reducible rfl
  rotate_left
  ·simp only [Act.put, List.setIfInBounds_toArray, List.set_cons_zero, List.set_cons_succ, i64_w, i32_w]
   rfl
  refine take_ (i := 1) (N := some 75) (v := ?_) (a' := ?_) #[true, true, false, true, false, false, false] rfl rfl (by kernel_rfl) (fun _ _ _ h => h) (Or.inl ⟨by rfl, ?_⟩) hHeld ?_ ?_
  rotate_left
  ·rintro w' ⟨s0, s1, s2, s3, s4, s5⟩
   go_simp
   with_reducible rfl
  rotate_left
  ·simp only [Act.put, List.setIfInBounds_toArray, List.set_cons_zero, List.set_cons_succ, i64_w, i32_w]
   rfl
  refine pure_ (i := 2) (N := some 76) (v := ?_) (a' := ?_) #[true, true, true, true, false, false, false] rfl rfl (by kernel_rfl) (fun _ _ _ h => h) (Or.inl ⟨by rfl, ?_⟩) ?_ ?_
  rotate_left
  ·intro w'
   go_simp
   with_reducible rfl
  rotate_left
  ·simp only [Act.put, List.setIfInBounds_toArray, List.set_cons_zero, List.set_cons_succ, i64_w, i32_w]
   rfl
  refine one_ (i := 4) (N := none) #[true, true, true, true, true, false, false] rfl rfl (by kernel_rfl) (by decide) (fun K hK => ?_)
  have hs76 : w75.cell? ⟨gb191, 0, none⟩ = some (.int .i64 40) := (bkC BK191.1 0).trans rfl
  have hfs76 := bkF BK191.1 0
  have hns76_0 := NB189_191.1
  have hns76_1 := NB190_191.1
  have hms76_0 := NB191_189.1
  have hms76_1 := NB191_190.1
  refine skip_ (w1 := ?_) (by rfl) rfl ?_ ?_
  rotate_left
  ·go_simp
   rfl
  refine hK.out _ _ ⟨((cell_far (p := ⟨gb191, _, none⟩) NB189_191.1 _).trans (hHeld.1)), ((cell_far (p := ⟨gb191, _, none⟩) NB189_191.1 _).trans (hHeld.2.1)), ((cell_far (p := ⟨gb191, _, none⟩) NB189_191.1 _).trans (hHeld.2.2.1)), ((cell_far (p := ⟨gb191, _, none⟩) NB189_191.1 _).trans (hHeld.2.2.2.1)), ((cell_far (p := ⟨gb191, _, none⟩) NB189_191.1 _).trans (hHeld.2.2.2.2.1)), ((cell_far (p := ⟨gb191, _, none⟩) NB189_191.1 _).trans (hHeld.2.2.2.2.2))⟩ (fun hHeld => ?_)
  clear hK K
  refine pure_ (i := 5) (N := some 78) (v := ?_) (a' := ?_) #[true, true, true, true, true, true, false] rfl rfl (by kernel_rfl) (fun _ _ _ h => h) (Or.inl ⟨by rfl, ?_⟩) ?_ ?_
  rotate_left
  ·intro w'
   go_simp
   with_reducible rfl
  rotate_left
  ·simp only [Act.put, List.setIfInBounds_toArray, List.set_cons_zero, List.set_cons_succ, i64_w, i32_w]
   rfl
  refine one_ (i := 6) (N := none) #[true, true, true, true, true, true, true] rfl rfl (by kernel_rfl) (by decide) (fun K hK => ?_)
  have hs77 : w75.cell? ⟨gb191, 3, none⟩ = some (.int .u8 0) := (bkC BK191.1 3).trans rfl
  have hfs77 := bkF BK191.1 3
  have hns77_0 := NB189_191.1
  have hns77_1 := NB190_191.1
  have hms77_0 := NB191_189.1
  have hms77_1 := NB191_190.1
  refine skip_ (w1 := ?_) (by rfl) rfl ?_ ?_
  rotate_left
  ·go_simp
   rfl
  refine hK.out _ _ ⟨((cell_far (p := ⟨gb191, _, none⟩) NB189_191.1 _).trans (hHeld.1)), ((cell_far (p := ⟨gb191, _, none⟩) NB189_191.1 _).trans (hHeld.2.1)), ((cell_far (p := ⟨gb191, _, none⟩) NB189_191.1 _).trans (hHeld.2.2.1)), ((cell_far (p := ⟨gb191, _, none⟩) NB189_191.1 _).trans (hHeld.2.2.2.1)), ((cell_far (p := ⟨gb191, _, none⟩) NB189_191.1 _).trans (hHeld.2.2.2.2.1)), ((cell_far (p := ⟨gb191, _, none⟩) NB189_191.1 _).trans (hHeld.2.2.2.2.2))⟩ (fun hHeld => ?_)
  clear hK K
  refine done_ (by kernel_rfl) ?_
  have hnb78 := NB191_189.1
  have hnc78 := NB189_191.1
  have hnb79 := NB191_190.1
  have hnc79 := NB190_191.1
  obtain ⟨z80_0, z80_1, z80_2, z80_3, z80_4, z80_5, z80_6, z80_7⟩ := bx4 BK191.1
  have hnb81 := NB190_189.1
  have hnc81 := NB189_190.1
  obtain ⟨z82_0, z82_1, z82_2, z82_3, z82_4, z82_5, z82_6, z82_7⟩ := bx4 BK190.1
  try go_wp2
  refine bodyPost_ret (results_cell_row rfl _ _ gb190 36 #[.int .i64 29, .int .i64 1, .string (⟨#[]⟩ : ByteArray), .int .u8 ((a1_1) % 256)] (0, 0) _ rfl (by (with_reducible repeat first | apply bkN | apply bkD | apply bkA); refine put4 (cs := #[.int .i64 0, .int .i64 0, .string (⟨#[]⟩ : ByteArray), .int .u8 0]) ?_ rfl; (with_reducible repeat first | apply bkN | apply bkD | apply bkA); refine bkR ?_ NB190_191.1 _; (with_reducible repeat first | apply bkN | apply bkD | apply bkA); refine bkR ?_ NB190_191.1 _; (with_reducible repeat first | apply bkN | apply bkD | apply bkA); exact BK190.1) Try.underlying36 rfl (by kernel_rfl)) rfl ?_
  exact ⟨rfl, by apply_rules (transparency := .reducible) [HB.1, bwA, bwN, bwD, bwS, GE189.1, GE190.1, GE191.1]⟩
 replace c74 := Bool.eq_false_iff.mpr c74
 subst c74
 replace H : (if a0 = 39 then (bind_second.j5 kj71 a0 x6_2 x7_16 x8_28 a1_0 a1_1 a1_2 a1_3 a1_4 a1_5 40 1 (⟨#[]⟩ : ByteArray) 0) else (bind_second.j5 kj71 a0 x6_2 x7_16 false a1_0 a1_1 a1_2 a1_3 a1_4 a1_5 40 1 (⟨#[]⟩ : ByteArray) 0)) = some (r1, r2, r3, r4) := by rw [if_neg (show ¬ (false = true) by decide)] at H; exact H
 have HC83 := aM H
 clear H
 go_upto_region 13 with (fail)
 go_cut [79] (fun v79 wc => ∃ (kq : Nat) (x79_82 : Bool), v79 = .bool x79_82 ∧ Aside0 (bind_second.j5 kq a0 x6_2 x7_16 x79_82 a1_0 a1_1 a1_2 a1_3 a1_4 a1_5 40 1 (⟨#[]⟩ : ByteArray) 0 = some (r1, r2, r3, r4)) ∧ Aside0 (kq ≤ kj71) ∧ Aside0 (wc.heap[gb189]? = some (.cells #[.int .i64 a1_0, .int .i32 a1_1, .bool a1_2, .bool a1_3, .bool a1_4, .string a1_5] 25 (0, 0))) ∧ Aside0 (wc.heap[gb190]? = some (.cells #[.int .i64 0, .int .i64 0, .string (⟨#[]⟩ : ByteArray), .int .u8 0] 36 (0, 0))) ∧ Aside0 (wc.heap[gb191]? = some (.cells #[.int .i64 40, .int .i64 1, .string (⟨#[]⟩ : ByteArray), .int .u8 0] 36 (0, 0))) ∧ Aside0 (Below w.heap.size w wc))
 case first =>
  have H := HC83.1
  clear HC83
  by_cases c84 : a0 = 39
  ·rw [if_pos c84] at H
   have c84b0 : (a0 == 39) = true := beq_iff_eq.mpr c84
   have c84b1 : (a0 != 39) = false := bne_eq_false_iff_eq.mpr c84
   clear c84
   (first | rw [c84b0] | (simp only [i64_w, i32_w]; rw [c84b0]) | skip)
   have H' := aM H
   clear H
   go_wp2
   go_meet
   case rel => exact ⟨_, (x8_28), rfl, H', ⟨by have := HJ2.1; have := HJ16.1; have := HJ28.1; have := HJ60.1; have := HJ71.1; first | omega | exact Nat.le_refl _⟩, ⟨by apply_rules (transparency := .reducible) [BK189.1, bkN, bkD, bkA]⟩, ⟨by apply_rules (transparency := .reducible) [BK190.1, bkN, bkD, bkA]⟩, ⟨by apply_rules (transparency := .reducible) [BK191.1, bkN, bkD, bkA]⟩, ⟨by apply_rules (transparency := .reducible) [HB.1, bwA, bwN, bwD, bwS, GE189.1, GE190.1, GE191.1]⟩⟩
  rw [if_neg c84] at H
  have c84b0 : (a0 == 39) = false := beq_eq_false_iff_ne.mpr c84
  have c84b1 : (a0 != 39) = true := bne_iff_ne.mpr c84
  (first | rw [c84b0] | (simp only [i64_w, i32_w]; rw [c84b0]) | skip)
  have H' := aM H
  clear H
  go_wp2
  go_meet
  case rel => exact ⟨_, (false), rfl, H', ⟨by have := HJ2.1; have := HJ16.1; have := HJ28.1; have := HJ60.1; have := HJ71.1; first | omega | exact Nat.le_refl _⟩, ⟨by apply_rules (transparency := .reducible) [BK189.1, bkN, bkD, bkA]⟩, ⟨by apply_rules (transparency := .reducible) [BK190.1, bkN, bkD, bkA]⟩, ⟨by apply_rules (transparency := .reducible) [BK191.1, bkN, bkD, bkA]⟩, ⟨by apply_rules (transparency := .reducible) [HB.1, bwA, bwN, bwD, bwS, GE189.1, GE190.1, GE191.1]⟩⟩
 clear HC83
 try clear c42
 try clear c42b0
 try clear c42b1
 try clear c66
 try clear c74
 try clear z9_0 z9_1 z9_2 z9_3 z9_4 z9_5 z9_6 z9_7
 obtain ⟨kq, x79_82, rfl, HA, HJ82, BK189, BK190, BK191, HB⟩ := hcut
 obtain _ | kj82 := kq
 ·exact absurd HA.1 (by simp [bind_second.j5])
 have H := HA.1
 clear HA
 simp only [bind_second.j5] at H
 by_cases c85 : x79_82 = true
 ·subst c85
  replace H : (some (30, 1, (⟨#[]⟩ : ByteArray), (a1_1) % 256)) = some (r1, r2, r3, r4) := by rw [if_pos rfl] at H; exact H
  simp only [Option.some.injEq, Prod.mk.injEq] at H
  obtain ⟨rfl, rfl, rfl, rfl⟩ := H
  try go_wp2
  replace BK189 := aM (bkD BK189.1)
  replace BK190 := aM (bkD BK190.1)
  replace BK191 := aM (bkD BK191.1)
  replace HB := aM (bwD HB.1)
  refine start_ (n := 7) (S := fun w' => w'.cell? ⟨gb189, 0, none⟩ = some (.int .i64 a1_0) ∧ w'.cell? ⟨gb189, 1, none⟩ = some (.int .i32 a1_1) ∧ w'.cell? ⟨gb189, 2, none⟩ = some (.bool a1_2) ∧ w'.cell? ⟨gb189, 3, none⟩ = some (.bool a1_3) ∧ w'.cell? ⟨gb189, 4, none⟩ = some (.bool a1_4) ∧ w'.cell? ⟨gb189, 5, none⟩ = some (.string a1_5)) (ds := []) #[false, false, false, false, false, false, false] (by kernel_rfl) rfl rfl ⟨(bkC BK189.1 0).trans rfl, (bkC BK189.1 1).trans rfl, (bkC BK189.1 2).trans rfl, (bkC BK189.1 3).trans rfl, (bkC BK189.1 4).trans rfl, (bkC BK189.1 5).trans rfl⟩ (fun hHeld => ?_)
  generalize wc.drew = w86 at BK189 BK190 BK191 HB hHeld ⊢
  refine pure_ (i := 0) (N := some 85) (v := ?_) (a' := ?_) #[true, false, false, false, false, false, false] rfl rfl (by kernel_rfl) (fun _ _ _ h => h) (Or.inl ⟨by rfl, ?_⟩) ?_ ?_
  rotate_left
  ·intro w'
   go_simp
   with_reducible rfl
  rotate_left
  ·simp only [Act.put, List.setIfInBounds_toArray, List.set_cons_zero, List.set_cons_succ, i64_w, i32_w]
   rfl
  refine pure_ (i := 3) (N := some 88) (v := ?_) (a' := ?_) #[true, false, false, true, false, false, false] rfl rfl (by kernel_rfl) (fun _ _ _ h => h) (Or.inl ⟨by rfl, ?_⟩) ?_ ?_
  rotate_left
  ·intro w'
   go_simp
   with_reducible rfl
  rotate_left
  ·simp only [Act.put, List.setIfInBounds_toArray, List.set_cons_zero, List.set_cons_succ, i64_w, i32_w]
   rfl
  refine take_ (i := 1) (N := some 86) (v := ?_) (a' := ?_) #[true, true, false, true, false, false, false] rfl rfl (by kernel_rfl) (fun _ _ _ h => h) (Or.inl ⟨by rfl, ?_⟩) hHeld ?_ ?_
  rotate_left
  ·rintro w' ⟨s0, s1, s2, s3, s4, s5⟩
   go_simp
   with_reducible rfl
  rotate_left
  ·simp only [Act.put, List.setIfInBounds_toArray, List.set_cons_zero, List.set_cons_succ, i64_w, i32_w]
   rfl
  refine pure_ (i := 2) (N := some 87) (v := ?_) (a' := ?_) #[true, true, true, true, false, false, false] rfl rfl (by kernel_rfl) (fun _ _ _ h => h) (Or.inl ⟨by rfl, ?_⟩) ?_ ?_
  rotate_left
  ·intro w'
   go_simp
   with_reducible rfl
  rotate_left
  ·simp only [Act.put, List.setIfInBounds_toArray, List.set_cons_zero, List.set_cons_succ, i64_w, i32_w]
   rfl
  refine one_ (i := 4) (N := none) #[true, true, true, true, true, false, false] rfl rfl (by kernel_rfl) (by decide) (fun K hK => ?_)
  have hs87 : w86.cell? ⟨gb191, 0, none⟩ = some (.int .i64 40) := (bkC BK191.1 0).trans rfl
  have hfs87 := bkF BK191.1 0
  have hns87_0 := NB189_191.1
  have hns87_1 := NB190_191.1
  have hms87_0 := NB191_189.1
  have hms87_1 := NB191_190.1
  refine skip_ (w1 := ?_) (by rfl) rfl ?_ ?_
  rotate_left
  ·go_simp
   rfl
  refine hK.out _ _ ⟨((cell_far (p := ⟨gb191, _, none⟩) NB189_191.1 _).trans (hHeld.1)), ((cell_far (p := ⟨gb191, _, none⟩) NB189_191.1 _).trans (hHeld.2.1)), ((cell_far (p := ⟨gb191, _, none⟩) NB189_191.1 _).trans (hHeld.2.2.1)), ((cell_far (p := ⟨gb191, _, none⟩) NB189_191.1 _).trans (hHeld.2.2.2.1)), ((cell_far (p := ⟨gb191, _, none⟩) NB189_191.1 _).trans (hHeld.2.2.2.2.1)), ((cell_far (p := ⟨gb191, _, none⟩) NB189_191.1 _).trans (hHeld.2.2.2.2.2))⟩ (fun hHeld => ?_)
  clear hK K
  refine pure_ (i := 5) (N := some 89) (v := ?_) (a' := ?_) #[true, true, true, true, true, true, false] rfl rfl (by kernel_rfl) (fun _ _ _ h => h) (Or.inl ⟨by rfl, ?_⟩) ?_ ?_
  rotate_left
  ·intro w'
   go_simp
   with_reducible rfl
  rotate_left
  ·simp only [Act.put, List.setIfInBounds_toArray, List.set_cons_zero, List.set_cons_succ, i64_w, i32_w]
   rfl
  refine one_ (i := 6) (N := none) #[true, true, true, true, true, true, true] rfl rfl (by kernel_rfl) (by decide) (fun K hK => ?_)
  have hs88 : w86.cell? ⟨gb191, 3, none⟩ = some (.int .u8 0) := (bkC BK191.1 3).trans rfl
  have hfs88 := bkF BK191.1 3
  have hns88_0 := NB189_191.1
  have hns88_1 := NB190_191.1
  have hms88_0 := NB191_189.1
  have hms88_1 := NB191_190.1
  refine skip_ (w1 := ?_) (by rfl) rfl ?_ ?_
  rotate_left
  ·go_simp
   rfl
  refine hK.out _ _ ⟨((cell_far (p := ⟨gb191, _, none⟩) NB189_191.1 _).trans (hHeld.1)), ((cell_far (p := ⟨gb191, _, none⟩) NB189_191.1 _).trans (hHeld.2.1)), ((cell_far (p := ⟨gb191, _, none⟩) NB189_191.1 _).trans (hHeld.2.2.1)), ((cell_far (p := ⟨gb191, _, none⟩) NB189_191.1 _).trans (hHeld.2.2.2.1)), ((cell_far (p := ⟨gb191, _, none⟩) NB189_191.1 _).trans (hHeld.2.2.2.2.1)), ((cell_far (p := ⟨gb191, _, none⟩) NB189_191.1 _).trans (hHeld.2.2.2.2.2))⟩ (fun hHeld => ?_)
  clear hK K
  refine done_ (by kernel_rfl) ?_
  have hnb89 := NB191_189.1
  have hnc89 := NB189_191.1
  have hnb90 := NB191_190.1
  have hnc90 := NB190_191.1
  obtain ⟨z91_0, z91_1, z91_2, z91_3, z91_4, z91_5, z91_6, z91_7⟩ := bx4 BK191.1
  have hnb92 := NB190_189.1
  have hnc92 := NB189_190.1
  obtain ⟨z93_0, z93_1, z93_2, z93_3, z93_4, z93_5, z93_6, z93_7⟩ := bx4 BK190.1
  try go_wp2
  refine bodyPost_ret (results_cell_row rfl _ _ gb190 36 #[.int .i64 30, .int .i64 1, .string (⟨#[]⟩ : ByteArray), .int .u8 ((a1_1) % 256)] (0, 0) _ rfl (by (with_reducible repeat first | apply bkN | apply bkD | apply bkA); refine put4 (cs := #[.int .i64 0, .int .i64 0, .string (⟨#[]⟩ : ByteArray), .int .u8 0]) ?_ rfl; (with_reducible repeat first | apply bkN | apply bkD | apply bkA); refine bkR ?_ NB190_191.1 _; (with_reducible repeat first | apply bkN | apply bkD | apply bkA); refine bkR ?_ NB190_191.1 _; (with_reducible repeat first | apply bkN | apply bkD | apply bkA); exact BK190.1) Try.underlying36 rfl (by kernel_rfl)) rfl ?_
  exact ⟨rfl, by apply_rules (transparency := .reducible) [HB.1, bwA, bwN, bwD, bwS, GE189.1, GE190.1, GE191.1]⟩
 replace c85 := Bool.eq_false_iff.mpr c85
 subst c85
 replace H : (if a0 = 120 then (if x6_2 = true then (bind_second.j6 kj82 a0 x7_16 (a1_1 == 88) a1_0 a1_1 a1_2 a1_3 a1_4 a1_5 40 1 (⟨#[]⟩ : ByteArray) 0) else (bind_second.j6 kj82 a0 x7_16 false a1_0 a1_1 a1_2 a1_3 a1_4 a1_5 40 1 (⟨#[]⟩ : ByteArray) 0)) else (bind_second.j6 kj82 a0 x7_16 false a1_0 a1_1 a1_2 a1_3 a1_4 a1_5 40 1 (⟨#[]⟩ : ByteArray) 0)) = some (r1, r2, r3, r4) := by rw [if_neg (show ¬ (false = true) by decide)] at H; exact H
 have HC94 := aM H
 clear H
 go_upto_region 15 with (fail)
 go_cut [90] (fun v90 wc => ∃ (kq : Nat) (x90_93 : Bool), v90 = .bool x90_93 ∧ Aside0 (bind_second.j6 kq a0 x7_16 x90_93 a1_0 a1_1 a1_2 a1_3 a1_4 a1_5 40 1 (⟨#[]⟩ : ByteArray) 0 = some (r1, r2, r3, r4)) ∧ Aside0 (kq ≤ kj82) ∧ Aside0 (wc.heap[gb189]? = some (.cells #[.int .i64 a1_0, .int .i32 a1_1, .bool a1_2, .bool a1_3, .bool a1_4, .string a1_5] 25 (0, 0))) ∧ Aside0 (wc.heap[gb190]? = some (.cells #[.int .i64 0, .int .i64 0, .string (⟨#[]⟩ : ByteArray), .int .u8 0] 36 (0, 0))) ∧ Aside0 (wc.heap[gb191]? = some (.cells #[.int .i64 40, .int .i64 1, .string (⟨#[]⟩ : ByteArray), .int .u8 0] 36 (0, 0))) ∧ Aside0 (Below w.heap.size w wc))
 case first =>
  have H := HC94.1
  clear HC94
  by_cases c95 : a0 = 120
  ·rw [if_pos c95] at H
   have c95b0 : (a0 == 120) = true := beq_iff_eq.mpr c95
   have c95b1 : (a0 != 120) = false := bne_eq_false_iff_eq.mpr c95
   clear c95
   (first | rw [c95b0] | (simp only [i64_w, i32_w]; rw [c95b0]) | skip)
   by_cases c96 : x6_2 = true
   ·subst c96
    replace H : (bind_second.j6 kj82 a0 x7_16 (a1_1 == 88) a1_0 a1_1 a1_2 a1_3 a1_4 a1_5 40 1 (⟨#[]⟩ : ByteArray) 0) = some (r1, r2, r3, r4) := by rw [if_pos rfl] at H; exact H
    have H' := aM H
    clear H
    have hnb97 := NB189_190.1
    have hnc97 := NB190_189.1
    have hnb98 := NB189_191.1
    have hnc98 := NB191_189.1
    obtain ⟨z99_0, z99_1, z99_2, z99_3, z99_4, z99_5, z99_6, z99_7, z99_8, z99_9, z99_10, z99_11⟩ := bx6 BK189.1
    go_wp2
    go_meet
    case rel => exact ⟨_, ((a1_1 == 88)), rfl, H', ⟨by have := HJ2.1; have := HJ16.1; have := HJ28.1; have := HJ60.1; have := HJ71.1; have := HJ82.1; first | omega | exact Nat.le_refl _⟩, ⟨by apply_rules (transparency := .reducible) [BK189.1, bkN, bkD, bkA]⟩, ⟨by apply_rules (transparency := .reducible) [BK190.1, bkN, bkD, bkA]⟩, ⟨by apply_rules (transparency := .reducible) [BK191.1, bkN, bkD, bkA]⟩, ⟨by apply_rules (transparency := .reducible) [HB.1, bwA, bwN, bwD, bwS, GE189.1, GE190.1, GE191.1]⟩⟩
   replace c96 := Bool.eq_false_iff.mpr c96
   subst c96
   replace H : (bind_second.j6 kj82 a0 x7_16 false a1_0 a1_1 a1_2 a1_3 a1_4 a1_5 40 1 (⟨#[]⟩ : ByteArray) 0) = some (r1, r2, r3, r4) := by rw [if_neg (show ¬ (false = true) by decide)] at H; exact H
   have H' := aM H
   clear H
   go_wp2
   go_meet
   case rel => exact ⟨_, (false), rfl, H', ⟨by have := HJ2.1; have := HJ16.1; have := HJ28.1; have := HJ60.1; have := HJ71.1; have := HJ82.1; first | omega | exact Nat.le_refl _⟩, ⟨by apply_rules (transparency := .reducible) [BK189.1, bkN, bkD, bkA]⟩, ⟨by apply_rules (transparency := .reducible) [BK190.1, bkN, bkD, bkA]⟩, ⟨by apply_rules (transparency := .reducible) [BK191.1, bkN, bkD, bkA]⟩, ⟨by apply_rules (transparency := .reducible) [HB.1, bwA, bwN, bwD, bwS, GE189.1, GE190.1, GE191.1]⟩⟩
  rw [if_neg c95] at H
  have c95b0 : (a0 == 120) = false := beq_eq_false_iff_ne.mpr c95
  have c95b1 : (a0 != 120) = true := bne_iff_ne.mpr c95
  (first | rw [c95b0] | (simp only [i64_w, i32_w]; rw [c95b0]) | skip)
  have H' := aM H
  clear H
  go_wp2
  go_meet
  case rel => exact ⟨_, (false), rfl, H', ⟨by have := HJ2.1; have := HJ16.1; have := HJ28.1; have := HJ60.1; have := HJ71.1; have := HJ82.1; first | omega | exact Nat.le_refl _⟩, ⟨by apply_rules (transparency := .reducible) [BK189.1, bkN, bkD, bkA]⟩, ⟨by apply_rules (transparency := .reducible) [BK190.1, bkN, bkD, bkA]⟩, ⟨by apply_rules (transparency := .reducible) [BK191.1, bkN, bkD, bkA]⟩, ⟨by apply_rules (transparency := .reducible) [HB.1, bwA, bwN, bwD, bwS, GE189.1, GE190.1, GE191.1]⟩⟩
 clear HC94
 try clear c42
 try clear c42b0
 try clear c42b1
 try clear c66
 try clear c74
 try clear c85
 try clear z9_0 z9_1 z9_2 z9_3 z9_4 z9_5 z9_6 z9_7
 obtain ⟨kq, x90_93, rfl, HA, HJ93, BK189, BK190, BK191, HB⟩ := hcut
 obtain _ | kj93 := kq
 ·exact absurd HA.1 (by simp [bind_second.j6])
 have H := HA.1
 clear HA
 simp only [bind_second.j6] at H
 by_cases c100 : x90_93 = true
 ·subst c100
  replace H : (some (31, 1, (⟨#[]⟩ : ByteArray), 0)) = some (r1, r2, r3, r4) := by rw [if_pos rfl] at H; exact H
  simp only [Option.some.injEq, Prod.mk.injEq] at H
  obtain ⟨rfl, rfl, rfl, rfl⟩ := H
  have hnb101 := NB191_189.1
  have hnc101 := NB189_191.1
  have hnb102 := NB191_190.1
  have hnc102 := NB190_191.1
  obtain ⟨z103_0, z103_1, z103_2, z103_3, z103_4, z103_5, z103_6, z103_7⟩ := bx4 BK191.1
  have hnb104 := NB190_189.1
  have hnc104 := NB189_190.1
  obtain ⟨z105_0, z105_1, z105_2, z105_3, z105_4, z105_5, z105_6, z105_7⟩ := bx4 BK190.1
  go_wp2
  refine bodyPost_ret (results_cell_row rfl _ _ gb190 36 #[.int .i64 31, .int .i64 1, .string (⟨#[]⟩ : ByteArray), .int .u8 0] (0, 0) _ rfl (by (with_reducible repeat first | apply bkN | apply bkD | apply bkA); refine put4 (cs := #[.int .i64 0, .int .i64 0, .string (⟨#[]⟩ : ByteArray), .int .u8 0]) ?_ rfl; (with_reducible repeat first | apply bkN | apply bkD | apply bkA); refine bkR ?_ NB190_191.1 _; (with_reducible repeat first | apply bkN | apply bkD | apply bkA); exact BK190.1) Try.underlying36 rfl (by kernel_rfl)) rfl ?_
  exact ⟨rfl, by apply_rules (transparency := .reducible) [HB.1, bwA, bwN, bwD, bwS, GE189.1, GE190.1, GE191.1]⟩
 replace c100 := Bool.eq_false_iff.mpr c100
 subst c100
 replace H : (if a0 = 120 then (if x7_16 = true then (bind_second.j7 kj93 a0 x7_16 (a1_1 == 117) a1_0 a1_1 a1_2 a1_3 a1_4 a1_5 40 1 (⟨#[]⟩ : ByteArray) 0) else (bind_second.j7 kj93 a0 x7_16 false a1_0 a1_1 a1_2 a1_3 a1_4 a1_5 40 1 (⟨#[]⟩ : ByteArray) 0)) else (bind_second.j7 kj93 a0 x7_16 false a1_0 a1_1 a1_2 a1_3 a1_4 a1_5 40 1 (⟨#[]⟩ : ByteArray) 0)) = some (r1, r2, r3, r4) := by rw [if_neg (show ¬ (false = true) by decide)] at H; exact H
 have HC106 := aM H
 clear H
 go_upto_region 17 with (fail)
 go_cut [102] (fun v102 wc => ∃ (kq : Nat) (x102_105 : Bool), v102 = .bool x102_105 ∧ Aside0 (bind_second.j7 kq a0 x7_16 x102_105 a1_0 a1_1 a1_2 a1_3 a1_4 a1_5 40 1 (⟨#[]⟩ : ByteArray) 0 = some (r1, r2, r3, r4)) ∧ Aside0 (kq ≤ kj93) ∧ Aside0 (wc.heap[gb189]? = some (.cells #[.int .i64 a1_0, .int .i32 a1_1, .bool a1_2, .bool a1_3, .bool a1_4, .string a1_5] 25 (0, 0))) ∧ Aside0 (wc.heap[gb190]? = some (.cells #[.int .i64 0, .int .i64 0, .string (⟨#[]⟩ : ByteArray), .int .u8 0] 36 (0, 0))) ∧ Aside0 (wc.heap[gb191]? = some (.cells #[.int .i64 40, .int .i64 1, .string (⟨#[]⟩ : ByteArray), .int .u8 0] 36 (0, 0))) ∧ Aside0 (Below w.heap.size w wc))
 case first =>
  have H := HC106.1
  clear HC106
  by_cases c107 : a0 = 120
  ·rw [if_pos c107] at H
   have c107b0 : (a0 == 120) = true := beq_iff_eq.mpr c107
   have c107b1 : (a0 != 120) = false := bne_eq_false_iff_eq.mpr c107
   clear c107
   (first | rw [c107b0] | (simp only [i64_w, i32_w]; rw [c107b0]) | skip)
   by_cases c108 : x7_16 = true
   ·subst c108
    replace H : (bind_second.j7 kj93 a0 true (a1_1 == 117) a1_0 a1_1 a1_2 a1_3 a1_4 a1_5 40 1 (⟨#[]⟩ : ByteArray) 0) = some (r1, r2, r3, r4) := by rw [if_pos rfl] at H; exact H
    have H' := aM H
    clear H
    have hnb109 := NB189_190.1
    have hnc109 := NB190_189.1
    have hnb110 := NB189_191.1
    have hnc110 := NB191_189.1
    obtain ⟨z111_0, z111_1, z111_2, z111_3, z111_4, z111_5, z111_6, z111_7, z111_8, z111_9, z111_10, z111_11⟩ := bx6 BK189.1
    go_wp2
    go_meet
    case rel => exact ⟨_, ((a1_1 == 117)), rfl, H', ⟨by have := HJ2.1; have := HJ16.1; have := HJ28.1; have := HJ60.1; have := HJ71.1; have := HJ82.1; have := HJ93.1; first | omega | exact Nat.le_refl _⟩, ⟨by apply_rules (transparency := .reducible) [BK189.1, bkN, bkD, bkA]⟩, ⟨by apply_rules (transparency := .reducible) [BK190.1, bkN, bkD, bkA]⟩, ⟨by apply_rules (transparency := .reducible) [BK191.1, bkN, bkD, bkA]⟩, ⟨by apply_rules (transparency := .reducible) [HB.1, bwA, bwN, bwD, bwS, GE189.1, GE190.1, GE191.1]⟩⟩
   replace c108 := Bool.eq_false_iff.mpr c108
   subst c108
   replace H : (bind_second.j7 kj93 a0 false false a1_0 a1_1 a1_2 a1_3 a1_4 a1_5 40 1 (⟨#[]⟩ : ByteArray) 0) = some (r1, r2, r3, r4) := by rw [if_neg (show ¬ (false = true) by decide)] at H; exact H
   have H' := aM H
   clear H
   go_wp2
   go_meet
   case rel => exact ⟨_, (false), rfl, H', ⟨by have := HJ2.1; have := HJ16.1; have := HJ28.1; have := HJ60.1; have := HJ71.1; have := HJ82.1; have := HJ93.1; first | omega | exact Nat.le_refl _⟩, ⟨by apply_rules (transparency := .reducible) [BK189.1, bkN, bkD, bkA]⟩, ⟨by apply_rules (transparency := .reducible) [BK190.1, bkN, bkD, bkA]⟩, ⟨by apply_rules (transparency := .reducible) [BK191.1, bkN, bkD, bkA]⟩, ⟨by apply_rules (transparency := .reducible) [HB.1, bwA, bwN, bwD, bwS, GE189.1, GE190.1, GE191.1]⟩⟩
  rw [if_neg c107] at H
  have c107b0 : (a0 == 120) = false := beq_eq_false_iff_ne.mpr c107
  have c107b1 : (a0 != 120) = true := bne_iff_ne.mpr c107
  (first | rw [c107b0] | (simp only [i64_w, i32_w]; rw [c107b0]) | skip)
  have H' := aM H
  clear H
  go_wp2
  go_meet
  case rel => exact ⟨_, (false), rfl, H', ⟨by have := HJ2.1; have := HJ16.1; have := HJ28.1; have := HJ60.1; have := HJ71.1; have := HJ82.1; have := HJ93.1; first | omega | exact Nat.le_refl _⟩, ⟨by apply_rules (transparency := .reducible) [BK189.1, bkN, bkD, bkA]⟩, ⟨by apply_rules (transparency := .reducible) [BK190.1, bkN, bkD, bkA]⟩, ⟨by apply_rules (transparency := .reducible) [BK191.1, bkN, bkD, bkA]⟩, ⟨by apply_rules (transparency := .reducible) [HB.1, bwA, bwN, bwD, bwS, GE189.1, GE190.1, GE191.1]⟩⟩
 clear HC106
 try clear c42
 try clear c42b0
 try clear c42b1
 try clear c66
 try clear c74
 try clear c85
 try clear c100
 try clear z9_0 z9_1 z9_2 z9_3 z9_4 z9_5 z9_6 z9_7
 obtain ⟨kq, x102_105, rfl, HA, HJ105, BK189, BK190, BK191, HB⟩ := hcut
 obtain _ | kj105 := kq
 ·exact absurd HA.1 (by simp [bind_second.j7])
 have H := HA.1
 clear HA
 simp only [bind_second.j7] at H
 by_cases c112 : x102_105 = true
 ·subst c112
  replace H : (some (32, 1, (⟨#[]⟩ : ByteArray), 0)) = some (r1, r2, r3, r4) := by rw [if_pos rfl] at H; exact H
  simp only [Option.some.injEq, Prod.mk.injEq] at H
  obtain ⟨rfl, rfl, rfl, rfl⟩ := H
  have hnb113 := NB191_189.1
  have hnc113 := NB189_191.1
  have hnb114 := NB191_190.1
  have hnc114 := NB190_191.1
  obtain ⟨z115_0, z115_1, z115_2, z115_3, z115_4, z115_5, z115_6, z115_7⟩ := bx4 BK191.1
  have hnb116 := NB190_189.1
  have hnc116 := NB189_190.1
  obtain ⟨z117_0, z117_1, z117_2, z117_3, z117_4, z117_5, z117_6, z117_7⟩ := bx4 BK190.1
  go_wp2
  refine bodyPost_ret (results_cell_row rfl _ _ gb190 36 #[.int .i64 32, .int .i64 1, .string (⟨#[]⟩ : ByteArray), .int .u8 0] (0, 0) _ rfl (by (with_reducible repeat first | apply bkN | apply bkD | apply bkA); refine put4 (cs := #[.int .i64 0, .int .i64 0, .string (⟨#[]⟩ : ByteArray), .int .u8 0]) ?_ rfl; (with_reducible repeat first | apply bkN | apply bkD | apply bkA); refine bkR ?_ NB190_191.1 _; (with_reducible repeat first | apply bkN | apply bkD | apply bkA); exact BK190.1) Try.underlying36 rfl (by kernel_rfl)) rfl ?_
  exact ⟨rfl, by apply_rules (transparency := .reducible) [HB.1, bwA, bwN, bwD, bwS, GE189.1, GE190.1, GE191.1]⟩
 replace c112 := Bool.eq_false_iff.mpr c112
 subst c112
 replace H : (if a0 = 120 then (if x7_16 = true then (if a1_1 = 114 then (some (33, 1, (⟨#[]⟩ : ByteArray), 0)) else (some (40, 1, (⟨#[]⟩ : ByteArray), 0))) else (some (40, 1, (⟨#[]⟩ : ByteArray), 0))) else (some (40, 1, (⟨#[]⟩ : ByteArray), 0))) = some (r1, r2, r3, r4) := by rw [if_neg (show ¬ (false = true) by decide)] at H; exact H
 by_cases c118 : a0 = 120
 ·rw [if_pos c118] at H
  have c118b0 : (a0 == 120) = true := beq_iff_eq.mpr c118
  have c118b1 : (a0 != 120) = false := bne_eq_false_iff_eq.mpr c118
  clear c118
  by_cases c119 : x7_16 = true
  ·subst c119
   replace H : (if a1_1 = 114 then (some (33, 1, (⟨#[]⟩ : ByteArray), 0)) else (some (40, 1, (⟨#[]⟩ : ByteArray), 0))) = some (r1, r2, r3, r4) := by rw [if_pos rfl] at H; exact H
   by_cases c120 : a1_1 = 114
   ·rw [if_pos c120] at H
    have c120b0 : (a1_1 == 114) = true := beq_iff_eq.mpr c120
    have c120b1 : (a1_1 != 114) = false := bne_eq_false_iff_eq.mpr c120
    clear c120
    simp only [Option.some.injEq, Prod.mk.injEq] at H
    obtain ⟨rfl, rfl, rfl, rfl⟩ := H
    have hnb121 := NB189_190.1
    have hnc121 := NB190_189.1
    have hnb122 := NB189_191.1
    have hnc122 := NB191_189.1
    obtain ⟨z123_0, z123_1, z123_2, z123_3, z123_4, z123_5, z123_6, z123_7, z123_8, z123_9, z123_10, z123_11⟩ := bx6 BK189.1
    have hnb124 := NB191_190.1
    have hnc124 := NB190_191.1
    obtain ⟨z125_0, z125_1, z125_2, z125_3, z125_4, z125_5, z125_6, z125_7⟩ := bx4 BK191.1
    obtain ⟨z126_0, z126_1, z126_2, z126_3, z126_4, z126_5, z126_6, z126_7⟩ := bx4 BK190.1
    go_wp2
    refine bodyPost_ret (results_cell_row rfl _ _ gb190 36 #[.int .i64 33, .int .i64 1, .string (⟨#[]⟩ : ByteArray), .int .u8 0] (0, 0) _ rfl (by (with_reducible repeat first | apply bkN | apply bkD | apply bkA); refine put4 (cs := #[.int .i64 0, .int .i64 0, .string (⟨#[]⟩ : ByteArray), .int .u8 0]) ?_ rfl; (with_reducible repeat first | apply bkN | apply bkD | apply bkA); refine bkR ?_ NB190_191.1 _; (with_reducible repeat first | apply bkN | apply bkD | apply bkA); exact BK190.1) Try.underlying36 rfl (by kernel_rfl)) rfl ?_
    exact ⟨rfl, by apply_rules (transparency := .reducible) [HB.1, bwA, bwN, bwD, bwS, GE189.1, GE190.1, GE191.1]⟩
   rw [if_neg c120] at H
   have c120b0 : (a1_1 == 114) = false := beq_eq_false_iff_ne.mpr c120
   have c120b1 : (a1_1 != 114) = true := bne_iff_ne.mpr c120
   simp only [Option.some.injEq, Prod.mk.injEq] at H
   obtain ⟨rfl, rfl, rfl, rfl⟩ := H
   have hnb127 := NB189_190.1
   have hnc127 := NB190_189.1
   have hnb128 := NB189_191.1
   have hnc128 := NB191_189.1
   obtain ⟨z129_0, z129_1, z129_2, z129_3, z129_4, z129_5, z129_6, z129_7, z129_8, z129_9, z129_10, z129_11⟩ := bx6 BK189.1
   have hnb130 := NB191_190.1
   have hnc130 := NB190_191.1
   obtain ⟨z131_0, z131_1, z131_2, z131_3, z131_4, z131_5, z131_6, z131_7⟩ := bx4 BK191.1
   obtain ⟨z132_0, z132_1, z132_2, z132_3, z132_4, z132_5, z132_6, z132_7⟩ := bx4 BK190.1
   go_wp2
   refine bodyPost_ret (results_cell_row rfl _ _ gb190 36 #[.int .i64 40, .int .i64 1, .string (⟨#[]⟩ : ByteArray), .int .u8 0] (0, 0) _ rfl (by (with_reducible repeat first | apply bkN | apply bkD | apply bkA); refine put4 (cs := #[.int .i64 0, .int .i64 0, .string (⟨#[]⟩ : ByteArray), .int .u8 0]) ?_ rfl; (with_reducible repeat first | apply bkN | apply bkD | apply bkA); exact BK190.1) Try.underlying36 rfl (by kernel_rfl)) rfl ?_
   exact ⟨rfl, by apply_rules (transparency := .reducible) [HB.1, bwA, bwN, bwD, bwS, GE189.1, GE190.1, GE191.1]⟩
  replace c119 := Bool.eq_false_iff.mpr c119
  subst c119
  replace H : (some (40, 1, (⟨#[]⟩ : ByteArray), 0)) = some (r1, r2, r3, r4) := by rw [if_neg (show ¬ (false = true) by decide)] at H; exact H
  simp only [Option.some.injEq, Prod.mk.injEq] at H
  obtain ⟨rfl, rfl, rfl, rfl⟩ := H
  have hnb133 := NB191_189.1
  have hnc133 := NB189_191.1
  have hnb134 := NB191_190.1
  have hnc134 := NB190_191.1
  obtain ⟨z135_0, z135_1, z135_2, z135_3, z135_4, z135_5, z135_6, z135_7⟩ := bx4 BK191.1
  have hnb136 := NB190_189.1
  have hnc136 := NB189_190.1
  obtain ⟨z137_0, z137_1, z137_2, z137_3, z137_4, z137_5, z137_6, z137_7⟩ := bx4 BK190.1
  go_wp2
  refine bodyPost_ret (results_cell_row rfl _ _ gb190 36 #[.int .i64 40, .int .i64 1, .string (⟨#[]⟩ : ByteArray), .int .u8 0] (0, 0) _ rfl (by (with_reducible repeat first | apply bkN | apply bkD | apply bkA); refine put4 (cs := #[.int .i64 0, .int .i64 0, .string (⟨#[]⟩ : ByteArray), .int .u8 0]) ?_ rfl; (with_reducible repeat first | apply bkN | apply bkD | apply bkA); exact BK190.1) Try.underlying36 rfl (by kernel_rfl)) rfl ?_
  exact ⟨rfl, by apply_rules (transparency := .reducible) [HB.1, bwA, bwN, bwD, bwS, GE189.1, GE190.1, GE191.1]⟩
 rw [if_neg c118] at H
 have c118b0 : (a0 == 120) = false := beq_eq_false_iff_ne.mpr c118
 have c118b1 : (a0 != 120) = true := bne_iff_ne.mpr c118
 simp only [Option.some.injEq, Prod.mk.injEq] at H
 obtain ⟨rfl, rfl, rfl, rfl⟩ := H
 have hnb138 := NB191_189.1
 have hnc138 := NB189_191.1
 have hnb139 := NB191_190.1
 have hnc139 := NB190_191.1
 obtain ⟨z140_0, z140_1, z140_2, z140_3, z140_4, z140_5, z140_6, z140_7⟩ := bx4 BK191.1
 have hnb141 := NB190_189.1
 have hnc141 := NB189_190.1
 obtain ⟨z142_0, z142_1, z142_2, z142_3, z142_4, z142_5, z142_6, z142_7⟩ := bx4 BK190.1
 go_wp2
 refine bodyPost_ret (results_cell_row rfl _ _ gb190 36 #[.int .i64 40, .int .i64 1, .string (⟨#[]⟩ : ByteArray), .int .u8 0] (0, 0) _ rfl (by (with_reducible repeat first | apply bkN | apply bkD | apply bkA); refine put4 (cs := #[.int .i64 0, .int .i64 0, .string (⟨#[]⟩ : ByteArray), .int .u8 0]) ?_ rfl; (with_reducible repeat first | apply bkN | apply bkD | apply bkA); exact BK190.1) Try.underlying36 rfl (by kernel_rfl)) rfl ?_
 exact ⟨rfl, by apply_rules (transparency := .reducible) [HB.1, bwA, bwN, bwD, bwS, GE189.1, GE190.1, GE191.1]⟩

end Go.Proofs.Ytgkaiagoogjibaa.PBind
