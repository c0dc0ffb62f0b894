-- written by pp.py of this session's wip: the kit's print, turned in a few places, over this claim's program
import Derived.Test.YtgkaiagoogjibaaPBindx0
import Derived.Test.YtgkaiagoogjibaaPBindx2
import Derived.Test.YtgkaiagoogjibaaPBindx9
import Derived.Test.YtgkaiagoogjibaaPBindx10
import Derived.Test.YtgkaiagoogjibaaPBindx16
namespace Go.Proofs.Ytgkaiagoogjibaa.PBind
open Go.RowKit Go.Proofs.YtgkaiagoogjibaaW.PrintWords Go.Proofs.YtgkaiagoogjibaaW.PrintLast Go.Proofs.YtgkaiagoogjibaaW.PrintMore
open Go.Proofs.YtgkaiagoogjibaaW.PrintWords renaming blk_drewN → bkN, blk_drew → bkD, blk_alloc → bkA, below_alloc → bwA, pw_below_drewN → bwN, below_drew1 → bwD, below_size → bwZ, below_step → bwP, blk_below → bkB, blk_cell → bkC, blk_put → bkU
open Go.Proofs.YtgkaiagoogjibaaW.PrintWords.Aside0 renaming mk → aM
attribute [local go_sem] max2_int min2_int max_two min_two max_three min_three max_four min_four   -- for this text's walks alone
set_option linter.unusedVariables false
set_option linter.unusedSimpArgs false

/-! ### bodkinlaw19_BindTable: function 7 -/
mutual
def bodkinlaw19_BindTable.l0 : Nat → Int → List (List (S25)) → Int → Option (Bool)
  | 0, _, _, _ => none
  | k + 1, x0, x3, x4 => if x4 ≤ 19 then (if x4 = 1 then (bodkinlaw19_BindTable.j1 k x0 x3 x4 1 true) else (bodkinlaw19_BindTable.j1 k x0 x3 x4 1 (x4 == 2))) else (some true)
def bodkinlaw19_BindTable.j1 : Nat → Int → List (List (S25)) → Int → Int → Bool → Option (Bool)
  | 0, _, _, _, _, _ => none
  | k + 1, x0, x3, x4, x5, x33 => if x33 = true then (bodkinlaw19_BindTable.j2 k x0 x3 x4 255) else (bodkinlaw19_BindTable.j2 k x0 x3 x4 x5)
def bodkinlaw19_BindTable.j2 : Nat → Int → List (List (S25)) → Int → Int → Option (Bool)
  | 0, _, _, _, _ => none
  | k + 1, x0, x3, x4, x5 => bodkinlaw19_BindTable.l1 k x0 x3 x4 x5 0
def bodkinlaw19_BindTable.l1 : Nat → Int → List (List (S25)) → Int → Int → Int → Option (Bool)
  | 0, _, _, _, _, _ => none
  | k + 1, x0, x3, x4, x5, x6 => if x6 ≤ x5 then (if x4 = 4 then (bodkinlaw19_BindTable.j4 k x0 x3 x4 x5 x6 true x4 x6 ((Go.bits .and .u8 x0 1) != 0) ((Go.bits .and .u8 x0 2) != 0) ((Go.bits .and .u8 x0 4) != 0) (⟨#[]⟩ : ByteArray)) else (bodkinlaw19_BindTable.j4 k x0 x3 x4 x5 x6 (decide (x4 ≥ 17)) x4 x6 ((Go.bits .and .u8 x0 1) != 0) ((Go.bits .and .u8 x0 2) != 0) ((Go.bits .and .u8 x0 4) != 0) (⟨#[]⟩ : ByteArray))) else (bodkinlaw19_BindTable.l0 k x0 x3 (wrap64 (x4 + 1)))
def bodkinlaw19_BindTable.j4 : Nat → Int → List (List (S25)) → Int → Int → Int → Bool → Int → Int → Bool → Bool → Bool → ByteArray → Option (Bool)
  | 0, _, _, _, _, _, _, _, _, _, _, _, _ => none
  | k + 1, x0, x3, x4, x5, x6, x56, x442000, x442001, x442002, x442003, x442004, x442005 => if x56 = true then (bodkinlaw19_BindTable.j5 k x0 x3 x4 x5 x6 x442000 x442001 x442002 x442003 x442004 (⟨#[255]⟩ : ByteArray)) else (bodkinlaw19_BindTable.j5 k x0 x3 x4 x5 x6 x442000 x442001 x442002 x442003 x442004 x442005)
def bodkinlaw19_BindTable.j5 : Nat → Int → List (List (S25)) → Int → Int → Int → Int → Int → Bool → Bool → Bool → ByteArray → Option (Bool)
  | 0, _, _, _, _, _, _, _, _, _, _, _ => none
  | k + 1, x0, x3, x4, x5, x6, x442000, x442001, x442002, x442003, x442004, x442005 => bodkinlaw19_BindTable.l2 k x0 x3 x4 x5 x6 x3 (x3.length : Int) 0 x442000 x442001 x442002 x442003 x442004 x442005
def bodkinlaw19_BindTable.l2 : Nat → Int → List (List (S25)) → Int → Int → Int → List (List (S25)) → Int → Int → Int → Int → Bool → Bool → Bool → ByteArray → Option (Bool)
  | 0, _, _, _, _, _, _, _, _, _, _, _, _, _, _ => none
  | k + 1, x0, x3, x4, x5, x6, x58, x59, x60, x442000, x442001, x442002, x442003, x442004, x442005 => if x60 < x59 then (if 0 ≤ x60 then (if x60 < (x58.length : Int) then ((some (([] : List (S25)) : List (S25))).bind fun y443 => (if y443.length + (rd_L8 x58 x60).length < 4398046511104 then ((some (y443 ++ (rd_L8 x58 x60) : List (S25))).bind fun y446 => ((bodkinlaw19_char.f 122 false).bind fun bt449 => ((some (([(⟨x442000, x442001, x442002, x442003, x442004, x442005⟩ : S25), (⟨bt449.1, bt449.2.1, bt449.2.2.1, bt449.2.2.2.1, bt449.2.2.2.2.1, bt449.2.2.2.2.2⟩ : S25)] : List (S25)) : List (S25))).bind fun y455 => (if y446.length + y455.length < 4398046511104 then ((some (y446 ++ y455 : List (S25))).bind fun y458 => ((bind_Commands.f k y458).bind fun t461 => ((bodkinref19_Commands.f k y458).bind fun t464 => ((bodkinlaw19_sameCommands.f k t461 t464).bind fun t467 => (if t467 = true then (bodkinlaw19_BindTable.l2 k x0 x3 x4 x5 x6 x58 x59 (wrap64 (x60 + 1)) x442000 x442001 x442002 x442003 x442004 x442005) else (some false)))))) else (none))))) else (none))) else (none)) else (none)) else (bodkinlaw19_BindTable.l1 k x0 x3 x4 x5 (wrap32 (x6 + 1)))
end
def bodkinlaw19_BindTable.f (k : Nat) (a0 : Int) : Option (Bool) := (bodkinlaw19_binds.f k).bind fun t392 => (if t392 = true then ((bodkinlaw19_ctrl.f 81).bind fun bt393 => ((bodkinlaw19_ctrl.f 88).bind fun bt402 => ((bodkinlaw19_char.f 109 true).bind fun bt411 => ((bodkinlaw19_char.f 39 true).bind fun bt420 => ((bodkinlaw19_char.f 55 true).bind fun bt429 => (bodkinlaw19_BindTable.l0 k a0 (([[], (([(⟨bt393.1, bt393.2.1, bt393.2.2.1, bt393.2.2.2.1, bt393.2.2.2.2.1, bt393.2.2.2.2.2⟩ : S25)] : List (S25))), (([(⟨bt402.1, bt402.2.1, bt402.2.2.1, bt402.2.2.2.1, bt402.2.2.2.2.1, bt402.2.2.2.2.2⟩ : S25)] : List (S25))), (([(⟨bt411.1, bt411.2.1, bt411.2.2.1, bt411.2.2.2.1, bt411.2.2.2.2.1, bt411.2.2.2.2.2⟩ : S25)] : List (S25))), (([(⟨bt420.1, bt420.2.1, bt420.2.2.1, bt420.2.2.2.1, bt420.2.2.2.2.1, bt420.2.2.2.2.2⟩ : S25)] : List (S25))), (([(⟨bt429.1, bt429.2.1, bt429.2.2.1, bt429.2.2.2.1, bt429.2.2.2.2.1, bt429.2.2.2.2.2⟩ : S25)] : List (S25)))] : List (List (S25)))) 0)))))) else (some false))
theorem bodkinlaw19_BindTable.mono_l : ∀ k, (∀ y0 y1 y2, LeO (bodkinlaw19_BindTable.l0 k y0 y1 y2) (bodkinlaw19_BindTable.l0 (k + 1) y0 y1 y2)) ∧ (∀ y0 y1 y2 y3 y4, LeO (bodkinlaw19_BindTable.j1 k y0 y1 y2 y3 y4) (bodkinlaw19_BindTable.j1 (k + 1) y0 y1 y2 y3 y4)) ∧ (∀ y0 y1 y2 y3, LeO (bodkinlaw19_BindTable.j2 k y0 y1 y2 y3) (bodkinlaw19_BindTable.j2 (k + 1) y0 y1 y2 y3)) ∧ (∀ y0 y1 y2 y3 y4, LeO (bodkinlaw19_BindTable.l1 k y0 y1 y2 y3 y4) (bodkinlaw19_BindTable.l1 (k + 1) y0 y1 y2 y3 y4)) ∧ (∀ y0 y1 y2 y3 y4 y5 y6 y7 y8 y9 y10 y11, LeO (bodkinlaw19_BindTable.j4 k y0 y1 y2 y3 y4 y5 y6 y7 y8 y9 y10 y11) (bodkinlaw19_BindTable.j4 (k + 1) y0 y1 y2 y3 y4 y5 y6 y7 y8 y9 y10 y11)) ∧ (∀ y0 y1 y2 y3 y4 y5 y6 y7 y8 y9 y10, LeO (bodkinlaw19_BindTable.j5 k y0 y1 y2 y3 y4 y5 y6 y7 y8 y9 y10) (bodkinlaw19_BindTable.j5 (k + 1) y0 y1 y2 y3 y4 y5 y6 y7 y8 y9 y10)) ∧ (∀ y0 y1 y2 y3 y4 y5 y6 y7 y8 y9 y10 y11 y12 y13, LeO (bodkinlaw19_BindTable.l2 k y0 y1 y2 y3 y4 y5 y6 y7 y8 y9 y10 y11 y12 y13) (bodkinlaw19_BindTable.l2 (k + 1) y0 y1 y2 y3 y4 y5 y6 y7 y8 y9 y10 y11 y12 y13))
  | 0 => ⟨fun _ _ _ r h => by simp [bodkinlaw19_BindTable.l0] at h, fun _ _ _ _ _ r h => by simp [bodkinlaw19_BindTable.j1] at h, fun _ _ _ _ r h => by simp [bodkinlaw19_BindTable.j2] at h, fun _ _ _ _ _ r h => by simp [bodkinlaw19_BindTable.l1] at h, fun _ _ _ _ _ _ _ _ _ _ _ _ r h => by simp [bodkinlaw19_BindTable.j4] at h, fun _ _ _ _ _ _ _ _ _ _ _ r h => by simp [bodkinlaw19_BindTable.j5] at h, fun _ _ _ _ _ _ _ _ _ _ _ _ _ _ r h => by simp [bodkinlaw19_BindTable.l2] at h⟩
  | k + 1 => by
    obtain ⟨ih0, ih1, ih2, ih3, ih4, ih5, ih6⟩ := bodkinlaw19_BindTable.mono_l k
    refine ⟨?_, ?_, ?_, ?_, ?_, ?_, ?_⟩
    · intro y0 y1 y2
      unfold bodkinlaw19_BindTable.l0
      repeat' first
      | (with_reducible exact ih0 _ _ _)
      | (with_reducible exact ih1 _ _ _ _ _)
      | (with_reducible exact ih2 _ _ _ _)
      | (with_reducible exact ih3 _ _ _ _ _)
      | (with_reducible exact ih4 _ _ _ _ _ _ _ _ _ _ _ _)
      | (with_reducible exact ih5 _ _ _ _ _ _ _ _ _ _ _)
      | (with_reducible exact ih6 _ _ _ _ _ _ _ _ _ _ _ _ _ _)
      | (with_reducible exact bind_Commands.mono _ _)
      | (with_reducible exact bodkinlaw19_binds.mono _)
      | (with_reducible exact bodkinlaw19_sameCommands.mono _ _ _)
      | (with_reducible exact bodkinref19_Commands.mono _ _)
      | (with_reducible exact LeO.refl _)
      | (with_reducible exact LeO.none _)
      | (with_reducible refine LeO.ite ?_ ?_)
      | (with_reducible refine LeO.bind ?_ (fun _ => ?_))
      | exact ih0 _ _ _
      | exact ih1 _ _ _ _ _
      | exact ih2 _ _ _ _
      | exact ih3 _ _ _ _ _
      | exact ih4 _ _ _ _ _ _ _ _ _ _ _ _
      | exact ih5 _ _ _ _ _ _ _ _ _ _ _
      | exact ih6 _ _ _ _ _ _ _ _ _ _ _ _ _ _
      | exact bind_Commands.mono _ _
      | exact bodkinlaw19_binds.mono _
      | exact bodkinlaw19_sameCommands.mono _ _ _
      | exact bodkinref19_Commands.mono _ _
      | exact LeO.none _
      | refine LeO.ite ?_ ?_
      | refine LeO.bind ?_ (fun _ => ?_)
    · intro y0 y1 y2 y3 y4
      unfold bodkinlaw19_BindTable.j1
      repeat' first
      | (with_reducible exact ih0 _ _ _)
      | (with_reducible exact ih1 _ _ _ _ _)
      | (with_reducible exact ih2 _ _ _ _)
      | (with_reducible exact ih3 _ _ _ _ _)
      | (with_reducible exact ih4 _ _ _ _ _ _ _ _ _ _ _ _)
      | (with_reducible exact ih5 _ _ _ _ _ _ _ _ _ _ _)
      | (with_reducible exact ih6 _ _ _ _ _ _ _ _ _ _ _ _ _ _)
      | (with_reducible exact bind_Commands.mono _ _)
      | (with_reducible exact bodkinlaw19_binds.mono _)
      | (with_reducible exact bodkinlaw19_sameCommands.mono _ _ _)
      | (with_reducible exact bodkinref19_Commands.mono _ _)
      | (with_reducible exact LeO.refl _)
      | (with_reducible exact LeO.none _)
      | (with_reducible refine LeO.ite ?_ ?_)
      | (with_reducible refine LeO.bind ?_ (fun _ => ?_))
      | exact ih0 _ _ _
      | exact ih1 _ _ _ _ _
      | exact ih2 _ _ _ _
      | exact ih3 _ _ _ _ _
      | exact ih4 _ _ _ _ _ _ _ _ _ _ _ _
      | exact ih5 _ _ _ _ _ _ _ _ _ _ _
      | exact ih6 _ _ _ _ _ _ _ _ _ _ _ _ _ _
      | exact bind_Commands.mono _ _
      | exact bodkinlaw19_binds.mono _
      | exact bodkinlaw19_sameCommands.mono _ _ _
      | exact bodkinref19_Commands.mono _ _
      | exact LeO.none _
      | refine LeO.ite ?_ ?_
      | refine LeO.bind ?_ (fun _ => ?_)
    · intro y0 y1 y2 y3
      unfold bodkinlaw19_BindTable.j2
      repeat' first
      | (with_reducible exact ih0 _ _ _)
      | (with_reducible exact ih1 _ _ _ _ _)
      | (with_reducible exact ih2 _ _ _ _)
      | (with_reducible exact ih3 _ _ _ _ _)
      | (with_reducible exact ih4 _ _ _ _ _ _ _ _ _ _ _ _)
      | (with_reducible exact ih5 _ _ _ _ _ _ _ _ _ _ _)
      | (with_reducible exact ih6 _ _ _ _ _ _ _ _ _ _ _ _ _ _)
      | (with_reducible exact bind_Commands.mono _ _)
      | (with_reducible exact bodkinlaw19_binds.mono _)
      | (with_reducible exact bodkinlaw19_sameCommands.mono _ _ _)
      | (with_reducible exact bodkinref19_Commands.mono _ _)
      | (with_reducible exact LeO.refl _)
      | (with_reducible exact LeO.none _)
      | (with_reducible refine LeO.ite ?_ ?_)
      | (with_reducible refine LeO.bind ?_ (fun _ => ?_))
      | exact ih0 _ _ _
      | exact ih1 _ _ _ _ _
      | exact ih2 _ _ _ _
      | exact ih3 _ _ _ _ _
      | exact ih4 _ _ _ _ _ _ _ _ _ _ _ _
      | exact ih5 _ _ _ _ _ _ _ _ _ _ _
      | exact ih6 _ _ _ _ _ _ _ _ _ _ _ _ _ _
      | exact bind_Commands.mono _ _
      | exact bodkinlaw19_binds.mono _
      | exact bodkinlaw19_sameCommands.mono _ _ _
      | exact bodkinref19_Commands.mono _ _
      | exact LeO.none _
      | refine LeO.ite ?_ ?_
      | refine LeO.bind ?_ (fun _ => ?_)
    · intro y0 y1 y2 y3 y4
      unfold bodkinlaw19_BindTable.l1
      repeat' first
      | (with_reducible exact ih0 _ _ _)
      | (with_reducible exact ih1 _ _ _ _ _)
      | (with_reducible exact ih2 _ _ _ _)
      | (with_reducible exact ih3 _ _ _ _ _)
      | (with_reducible exact ih4 _ _ _ _ _ _ _ _ _ _ _ _)
      | (with_reducible exact ih5 _ _ _ _ _ _ _ _ _ _ _)
      | (with_reducible exact ih6 _ _ _ _ _ _ _ _ _ _ _ _ _ _)
      | (with_reducible exact bind_Commands.mono _ _)
      | (with_reducible exact bodkinlaw19_binds.mono _)
      | (with_reducible exact bodkinlaw19_sameCommands.mono _ _ _)
      | (with_reducible exact bodkinref19_Commands.mono _ _)
      | (with_reducible exact LeO.refl _)
      | (with_reducible exact LeO.none _)
      | (with_reducible refine LeO.ite ?_ ?_)
      | (with_reducible refine LeO.bind ?_ (fun _ => ?_))
      | exact ih0 _ _ _
      | exact ih1 _ _ _ _ _
      | exact ih2 _ _ _ _
      | exact ih3 _ _ _ _ _
      | exact ih4 _ _ _ _ _ _ _ _ _ _ _ _
      | exact ih5 _ _ _ _ _ _ _ _ _ _ _
      | exact ih6 _ _ _ _ _ _ _ _ _ _ _ _ _ _
      | exact bind_Commands.mono _ _
      | exact bodkinlaw19_binds.mono _
      | exact bodkinlaw19_sameCommands.mono _ _ _
      | exact bodkinref19_Commands.mono _ _
      | exact LeO.none _
      | refine LeO.ite ?_ ?_
      | refine LeO.bind ?_ (fun _ => ?_)
    · intro y0 y1 y2 y3 y4 y5 y6 y7 y8 y9 y10 y11
      unfold bodkinlaw19_BindTable.j4
      repeat' first
      | (with_reducible exact ih0 _ _ _)
      | (with_reducible exact ih1 _ _ _ _ _)
      | (with_reducible exact ih2 _ _ _ _)
      | (with_reducible exact ih3 _ _ _ _ _)
      | (with_reducible exact ih4 _ _ _ _ _ _ _ _ _ _ _ _)
      | (with_reducible exact ih5 _ _ _ _ _ _ _ _ _ _ _)
      | (with_reducible exact ih6 _ _ _ _ _ _ _ _ _ _ _ _ _ _)
      | (with_reducible exact bind_Commands.mono _ _)
      | (with_reducible exact bodkinlaw19_binds.mono _)
      | (with_reducible exact bodkinlaw19_sameCommands.mono _ _ _)
      | (with_reducible exact bodkinref19_Commands.mono _ _)
      | (with_reducible exact LeO.refl _)
      | (with_reducible exact LeO.none _)
      | (with_reducible refine LeO.ite ?_ ?_)
      | (with_reducible refine LeO.bind ?_ (fun _ => ?_))
      | exact ih0 _ _ _
      | exact ih1 _ _ _ _ _
      | exact ih2 _ _ _ _
      | exact ih3 _ _ _ _ _
      | exact ih4 _ _ _ _ _ _ _ _ _ _ _ _
      | exact ih5 _ _ _ _ _ _ _ _ _ _ _
      | exact ih6 _ _ _ _ _ _ _ _ _ _ _ _ _ _
      | exact bind_Commands.mono _ _
      | exact bodkinlaw19_binds.mono _
      | exact bodkinlaw19_sameCommands.mono _ _ _
      | exact bodkinref19_Commands.mono _ _
      | exact LeO.none _
      | refine LeO.ite ?_ ?_
      | refine LeO.bind ?_ (fun _ => ?_)
    · intro y0 y1 y2 y3 y4 y5 y6 y7 y8 y9 y10
      unfold bodkinlaw19_BindTable.j5
      repeat' first
      | (with_reducible exact ih0 _ _ _)
      | (with_reducible exact ih1 _ _ _ _ _)
      | (with_reducible exact ih2 _ _ _ _)
      | (with_reducible exact ih3 _ _ _ _ _)
      | (with_reducible exact ih4 _ _ _ _ _ _ _ _ _ _ _ _)
      | (with_reducible exact ih5 _ _ _ _ _ _ _ _ _ _ _)
      | (with_reducible exact ih6 _ _ _ _ _ _ _ _ _ _ _ _ _ _)
      | (with_reducible exact bind_Commands.mono _ _)
      | (with_reducible exact bodkinlaw19_binds.mono _)
      | (with_reducible exact bodkinlaw19_sameCommands.mono _ _ _)
      | (with_reducible exact bodkinref19_Commands.mono _ _)
      | (with_reducible exact LeO.refl _)
      | (with_reducible exact LeO.none _)
      | (with_reducible refine LeO.ite ?_ ?_)
      | (with_reducible refine LeO.bind ?_ (fun _ => ?_))
      | exact ih0 _ _ _
      | exact ih1 _ _ _ _ _
      | exact ih2 _ _ _ _
      | exact ih3 _ _ _ _ _
      | exact ih4 _ _ _ _ _ _ _ _ _ _ _ _
      | exact ih5 _ _ _ _ _ _ _ _ _ _ _
      | exact ih6 _ _ _ _ _ _ _ _ _ _ _ _ _ _
      | exact bind_Commands.mono _ _
      | exact bodkinlaw19_binds.mono _
      | exact bodkinlaw19_sameCommands.mono _ _ _
      | exact bodkinref19_Commands.mono _ _
      | exact LeO.none _
      | refine LeO.ite ?_ ?_
      | refine LeO.bind ?_ (fun _ => ?_)
    · intro y0 y1 y2 y3 y4 y5 y6 y7 y8 y9 y10 y11 y12 y13
      unfold bodkinlaw19_BindTable.l2
      repeat' first
      | (with_reducible exact ih0 _ _ _)
      | (with_reducible exact ih1 _ _ _ _ _)
      | (with_reducible exact ih2 _ _ _ _)
      | (with_reducible exact ih3 _ _ _ _ _)
      | (with_reducible exact ih4 _ _ _ _ _ _ _ _ _ _ _ _)
      | (with_reducible exact ih5 _ _ _ _ _ _ _ _ _ _ _)
      | (with_reducible exact ih6 _ _ _ _ _ _ _ _ _ _ _ _ _ _)
      | (with_reducible exact bind_Commands.mono _ _)
      | (with_reducible exact bodkinlaw19_binds.mono _)
      | (with_reducible exact bodkinlaw19_sameCommands.mono _ _ _)
      | (with_reducible exact bodkinref19_Commands.mono _ _)
      | (with_reducible exact LeO.refl _)
      | (with_reducible exact LeO.none _)
      | (with_reducible refine LeO.ite ?_ ?_)
      | (with_reducible refine LeO.bind ?_ (fun _ => ?_))
      | exact ih0 _ _ _
      | exact ih1 _ _ _ _ _
      | exact ih2 _ _ _ _
      | exact ih3 _ _ _ _ _
      | exact ih4 _ _ _ _ _ _ _ _ _ _ _ _
      | exact ih5 _ _ _ _ _ _ _ _ _ _ _
      | exact ih6 _ _ _ _ _ _ _ _ _ _ _ _ _ _
      | exact bind_Commands.mono _ _
      | exact bodkinlaw19_binds.mono _
      | exact bodkinlaw19_sameCommands.mono _ _ _
      | exact bodkinref19_Commands.mono _ _
      | exact LeO.none _
      | refine LeO.ite ?_ ?_
      | refine LeO.bind ?_ (fun _ => ?_)
theorem bodkinlaw19_BindTable.mono : ∀ a0 k, LeO (bodkinlaw19_BindTable.f k a0) (bodkinlaw19_BindTable.f (k + 1) a0) := by
 intro a0 k
 obtain ⟨ih0, ih1, ih2, ih3, ih4, ih5, ih6⟩ := bodkinlaw19_BindTable.mono_l k
 unfold bodkinlaw19_BindTable.f
 repeat' first
   | (with_reducible exact ih0 _ _ _)
   | (with_reducible exact ih1 _ _ _ _ _)
   | (with_reducible exact ih2 _ _ _ _)
   | (with_reducible exact ih3 _ _ _ _ _)
   | (with_reducible exact ih4 _ _ _ _ _ _ _ _ _ _ _ _)
   | (with_reducible exact ih5 _ _ _ _ _ _ _ _ _ _ _)
   | (with_reducible exact ih6 _ _ _ _ _ _ _ _ _ _ _ _ _ _)
   | (with_reducible exact bind_Commands.mono _ _)
   | (with_reducible exact bodkinlaw19_binds.mono _)
   | (with_reducible exact bodkinlaw19_sameCommands.mono _ _ _)
   | (with_reducible exact bodkinref19_Commands.mono _ _)
   | (with_reducible exact LeO.refl _)
   | (with_reducible exact LeO.none _)
   | (with_reducible refine LeO.ite ?_ ?_)
   | (with_reducible refine LeO.bind ?_ (fun _ => ?_))
   | exact ih0 _ _ _
   | exact ih1 _ _ _ _ _
   | exact ih2 _ _ _ _
   | exact ih3 _ _ _ _ _
   | exact ih4 _ _ _ _ _ _ _ _ _ _ _ _
   | exact ih5 _ _ _ _ _ _ _ _ _ _ _
   | exact ih6 _ _ _ _ _ _ _ _ _ _ _ _ _ _
   | exact bind_Commands.mono _ _
   | exact bodkinlaw19_binds.mono _
   | exact bodkinlaw19_sameCommands.mono _ _ _
   | exact bodkinref19_Commands.mono _ _
   | exact LeO.none _
   | refine LeO.ite ?_ ?_
   | refine LeO.bind ?_ (fun _ => ?_)
def bodkinlaw19_BindTable.T19 : Bool × List (List Nat × List Nat) := (true, [([], []), ([], []), ([0, 1], [0, 1]), ([], []), ([2], []), ([3, 4], [3, 4]), ([2, 5, 4], [2, 5]), ([6, 6, 0, 1, 2, 3, 4, 5, 6], [6])])
def bodkinlaw19_BindTable.B19 : List Nat := [0, 0, 3, 0, 7, 31, 63, 127]
theorem bodkinlaw19_BindTable.tab19 : rtab .any (opsOf Try.f7 19) = bodkinlaw19_BindTable.T19 := by kernel_rfl
theorem bodkinlaw19_BindTable.bits19 : waitsOk bodkinlaw19_BindTable.T19.2 bodkinlaw19_BindTable.B19 = true := by kernel_rfl
set_option maxHeartbeats 8000000 in
set_option maxRecDepth 100000 in
theorem bodkinlaw19_BindTable.calls (k : Nat) (a0 : Int) (r : Bool) (w : World) (h : bodkinlaw19_BindTable.f k a0 = some r) :
    Calls Try.prog 7 #[.int .u8 a0] w fun e w' => e = .returned (.bool r) ∧ Below w.heap.size w w' := by
 have hu25 := Try.underlying25
 have HB := aM (Below.refl w.heap.size w)
 have H : ((bodkinlaw19_binds.f k).bind fun t392 => (if t392 = true then ((bodkinlaw19_ctrl.f 81).bind fun bt393 => ((bodkinlaw19_ctrl.f 88).bind fun bt402 => ((bodkinlaw19_char.f 109 true).bind fun bt411 => ((bodkinlaw19_char.f 39 true).bind fun bt420 => ((bodkinlaw19_char.f 55 true).bind fun bt429 => (bodkinlaw19_BindTable.l0 k a0 (([[], (([(⟨bt393.1, bt393.2.1, bt393.2.2.1, bt393.2.2.2.1, bt393.2.2.2.2.1, bt393.2.2.2.2.2⟩ : S25)] : List (S25))), (([(⟨bt402.1, bt402.2.1, bt402.2.2.1, bt402.2.2.2.1, bt402.2.2.2.2.1, bt402.2.2.2.2.2⟩ : S25)] : List (S25))), (([(⟨bt411.1, bt411.2.1, bt411.2.2.1, bt411.2.2.2.1, bt411.2.2.2.2.1, bt411.2.2.2.2.2⟩ : S25)] : List (S25))), (([(⟨bt420.1, bt420.2.1, bt420.2.2.1, bt420.2.2.2.1, bt420.2.2.2.2.1, bt420.2.2.2.2.2⟩ : S25)] : List (S25))), (([(⟨bt429.1, bt429.2.1, bt429.2.2.1, bt429.2.2.2.1, bt429.2.2.2.2.1, bt429.2.2.2.2.2⟩ : S25)] : List (S25)))] : List (List (S25)))) 0)))))) else (some false))) = some r := h
 clear h
 replace H := Option.bind_eq_some_iff.mp H
 obtain ⟨t392, A20, H⟩ := H
 replace H : (if t392 = true then ((bodkinlaw19_ctrl.f 81).bind fun bt393 => ((bodkinlaw19_ctrl.f 88).bind fun bt402 => ((bodkinlaw19_char.f 109 true).bind fun bt411 => ((bodkinlaw19_char.f 39 true).bind fun bt420 => ((bodkinlaw19_char.f 55 true).bind fun bt429 => (bodkinlaw19_BindTable.l0 k a0 (([[], (([(⟨bt393.1, bt393.2.1, bt393.2.2.1, bt393.2.2.2.1, bt393.2.2.2.2.1, bt393.2.2.2.2.2⟩ : S25)] : List (S25))), (([(⟨bt402.1, bt402.2.1, bt402.2.2.1, bt402.2.2.2.1, bt402.2.2.2.2.1, bt402.2.2.2.2.2⟩ : S25)] : List (S25))), (([(⟨bt411.1, bt411.2.1, bt411.2.2.1, bt411.2.2.2.1, bt411.2.2.2.2.1, bt411.2.2.2.2.2⟩ : S25)] : List (S25))), (([(⟨bt420.1, bt420.2.1, bt420.2.2.1, bt420.2.2.2.1, bt420.2.2.2.2.1, bt420.2.2.2.2.2⟩ : S25)] : List (S25))), (([(⟨bt429.1, bt429.2.1, bt429.2.2.1, bt429.2.2.2.1, bt429.2.2.2.2.1, bt429.2.2.2.2.2⟩ : S25)] : List (S25)))] : List (List (S25)))) 0)))))) else (some false)) = some r := H
 have A2 := aM A20
 clear A20
 by_cases c3 : t392 = true
 ·subst c3
  replace H : ((bodkinlaw19_ctrl.f 81).bind fun bt393 => ((bodkinlaw19_ctrl.f 88).bind fun bt402 => ((bodkinlaw19_char.f 109 true).bind fun bt411 => ((bodkinlaw19_char.f 39 true).bind fun bt420 => ((bodkinlaw19_char.f 55 true).bind fun bt429 => (bodkinlaw19_BindTable.l0 k a0 (([[], (([(⟨bt393.1, bt393.2.1, bt393.2.2.1, bt393.2.2.2.1, bt393.2.2.2.2.1, bt393.2.2.2.2.2⟩ : S25)] : List (S25))), (([(⟨bt402.1, bt402.2.1, bt402.2.2.1, bt402.2.2.2.1, bt402.2.2.2.2.1, bt402.2.2.2.2.2⟩ : S25)] : List (S25))), (([(⟨bt411.1, bt411.2.1, bt411.2.2.1, bt411.2.2.2.1, bt411.2.2.2.2.1, bt411.2.2.2.2.2⟩ : S25)] : List (S25))), (([(⟨bt420.1, bt420.2.1, bt420.2.2.1, bt420.2.2.2.1, bt420.2.2.2.2.1, bt420.2.2.2.2.2⟩ : S25)] : List (S25))), (([(⟨bt429.1, bt429.2.1, bt429.2.2.1, bt429.2.2.2.1, bt429.2.2.2.2.1, bt429.2.2.2.2.2⟩ : S25)] : List (S25)))] : List (List (S25)))) 0)))))) = some r := by rw [if_pos rfl] at H; exact H
  replace H := Option.bind_eq_some_iff.mp H
  obtain ⟨⟨t393, t394, t395, t396, t397, t398⟩, A40, H⟩ := H
  replace H : ((bodkinlaw19_ctrl.f 88).bind fun bt402 => ((bodkinlaw19_char.f 109 true).bind fun bt411 => ((bodkinlaw19_char.f 39 true).bind fun bt420 => ((bodkinlaw19_char.f 55 true).bind fun bt429 => (bodkinlaw19_BindTable.l0 k a0 (([[], (([(⟨t393, t394, t395, t396, t397, t398⟩ : S25)] : List (S25))), (([(⟨bt402.1, bt402.2.1, bt402.2.2.1, bt402.2.2.2.1, bt402.2.2.2.2.1, bt402.2.2.2.2.2⟩ : S25)] : List (S25))), (([(⟨bt411.1, bt411.2.1, bt411.2.2.1, bt411.2.2.2.1, bt411.2.2.2.2.1, bt411.2.2.2.2.2⟩ : S25)] : List (S25))), (([(⟨bt420.1, bt420.2.1, bt420.2.2.1, bt420.2.2.2.1, bt420.2.2.2.2.1, bt420.2.2.2.2.2⟩ : S25)] : List (S25))), (([(⟨bt429.1, bt429.2.1, bt429.2.2.1, bt429.2.2.2.1, bt429.2.2.2.2.1, bt429.2.2.2.2.2⟩ : S25)] : List (S25)))] : List (List (S25)))) 0))))) = some r := H
  have A4 := aM A40
  clear A40
  obtain ⟨y399, hy399⟩ : ∃ y_ : List (S25), y_ = (([(⟨t393, t394, t395, t396, t397, t398⟩ : S25)] : List (S25))) := ⟨_, rfl⟩
  replace H : ((bodkinlaw19_ctrl.f 88).bind fun bt402 => ((bodkinlaw19_char.f 109 true).bind fun bt411 => ((bodkinlaw19_char.f 39 true).bind fun bt420 => ((bodkinlaw19_char.f 55 true).bind fun bt429 => (bodkinlaw19_BindTable.l0 k a0 (([[], y399, (([(⟨bt402.1, bt402.2.1, bt402.2.2.1, bt402.2.2.2.1, bt402.2.2.2.2.1, bt402.2.2.2.2.2⟩ : S25)] : List (S25))), (([(⟨bt411.1, bt411.2.1, bt411.2.2.1, bt411.2.2.2.1, bt411.2.2.2.2.1, bt411.2.2.2.2.2⟩ : S25)] : List (S25))), (([(⟨bt420.1, bt420.2.1, bt420.2.2.1, bt420.2.2.2.1, bt420.2.2.2.2.1, bt420.2.2.2.2.2⟩ : S25)] : List (S25))), (([(⟨bt429.1, bt429.2.1, bt429.2.2.1, bt429.2.2.2.1, bt429.2.2.2.2.1, bt429.2.2.2.2.2⟩ : S25)] : List (S25)))] : List (List (S25)))) 0))))) = some r := by first | (rw [hy399]; with_reducible exact H) | (have H2_ := (Option.bind_some _ _).symm.trans H; rw [hy399]; with_reducible exact H2_) | (have H2_ := (Option.bind_some _ _).symm.trans H; with_reducible exact H2_) | with_reducible exact H | (rw [hy399]; exact H) | exact H
  have Ny399 := aM hy399
  clear hy399
  replace H := Option.bind_eq_some_iff.mp H
  obtain ⟨⟨t402, t403, t404, t405, t406, t407⟩, A50, H⟩ := H
  replace H : ((bodkinlaw19_char.f 109 true).bind fun bt411 => ((bodkinlaw19_char.f 39 true).bind fun bt420 => ((bodkinlaw19_char.f 55 true).bind fun bt429 => (bodkinlaw19_BindTable.l0 k a0 (([[], y399, (([(⟨t402, t403, t404, t405, t406, t407⟩ : S25)] : List (S25))), (([(⟨bt411.1, bt411.2.1, bt411.2.2.1, bt411.2.2.2.1, bt411.2.2.2.2.1, bt411.2.2.2.2.2⟩ : S25)] : List (S25))), (([(⟨bt420.1, bt420.2.1, bt420.2.2.1, bt420.2.2.2.1, bt420.2.2.2.2.1, bt420.2.2.2.2.2⟩ : S25)] : List (S25))), (([(⟨bt429.1, bt429.2.1, bt429.2.2.1, bt429.2.2.2.1, bt429.2.2.2.2.1, bt429.2.2.2.2.2⟩ : S25)] : List (S25)))] : List (List (S25)))) 0)))) = some r := H
  have A5 := aM A50
  clear A50
  obtain ⟨y408, hy408⟩ : ∃ y_ : List (S25), y_ = (([(⟨t402, t403, t404, t405, t406, t407⟩ : S25)] : List (S25))) := ⟨_, rfl⟩
  replace H : ((bodkinlaw19_char.f 109 true).bind fun bt411 => ((bodkinlaw19_char.f 39 true).bind fun bt420 => ((bodkinlaw19_char.f 55 true).bind fun bt429 => (bodkinlaw19_BindTable.l0 k a0 (([[], y399, y408, (([(⟨bt411.1, bt411.2.1, bt411.2.2.1, bt411.2.2.2.1, bt411.2.2.2.2.1, bt411.2.2.2.2.2⟩ : S25)] : List (S25))), (([(⟨bt420.1, bt420.2.1, bt420.2.2.1, bt420.2.2.2.1, bt420.2.2.2.2.1, bt420.2.2.2.2.2⟩ : S25)] : List (S25))), (([(⟨bt429.1, bt429.2.1, bt429.2.2.1, bt429.2.2.2.1, bt429.2.2.2.2.1, bt429.2.2.2.2.2⟩ : S25)] : List (S25)))] : List (List (S25)))) 0)))) = some r := by first | (rw [hy408]; with_reducible exact H) | (have H2_ := (Option.bind_some _ _).symm.trans H; rw [hy408]; with_reducible exact H2_) | (have H2_ := (Option.bind_some _ _).symm.trans H; with_reducible exact H2_) | with_reducible exact H | (rw [hy408]; exact H) | exact H
  have Ny408 := aM hy408
  clear hy408
  replace H := Option.bind_eq_some_iff.mp H
  obtain ⟨⟨t411, t412, t413, t414, t415, t416⟩, A60, H⟩ := H
  replace H : ((bodkinlaw19_char.f 39 true).bind fun bt420 => ((bodkinlaw19_char.f 55 true).bind fun bt429 => (bodkinlaw19_BindTable.l0 k a0 (([[], y399, y408, (([(⟨t411, t412, t413, t414, t415, t416⟩ : S25)] : List (S25))), (([(⟨bt420.1, bt420.2.1, bt420.2.2.1, bt420.2.2.2.1, bt420.2.2.2.2.1, bt420.2.2.2.2.2⟩ : S25)] : List (S25))), (([(⟨bt429.1, bt429.2.1, bt429.2.2.1, bt429.2.2.2.1, bt429.2.2.2.2.1, bt429.2.2.2.2.2⟩ : S25)] : List (S25)))] : List (List (S25)))) 0))) = some r := H
  have A6 := aM A60
  clear A60
  obtain ⟨y417, hy417⟩ : ∃ y_ : List (S25), y_ = (([(⟨t411, t412, t413, t414, t415, t416⟩ : S25)] : List (S25))) := ⟨_, rfl⟩
  replace H : ((bodkinlaw19_char.f 39 true).bind fun bt420 => ((bodkinlaw19_char.f 55 true).bind fun bt429 => (bodkinlaw19_BindTable.l0 k a0 (([[], y399, y408, y417, (([(⟨bt420.1, bt420.2.1, bt420.2.2.1, bt420.2.2.2.1, bt420.2.2.2.2.1, bt420.2.2.2.2.2⟩ : S25)] : List (S25))), (([(⟨bt429.1, bt429.2.1, bt429.2.2.1, bt429.2.2.2.1, bt429.2.2.2.2.1, bt429.2.2.2.2.2⟩ : S25)] : List (S25)))] : List (List (S25)))) 0))) = some r := by first | (rw [hy417]; with_reducible exact H) | (have H2_ := (Option.bind_some _ _).symm.trans H; rw [hy417]; with_reducible exact H2_) | (have H2_ := (Option.bind_some _ _).symm.trans H; with_reducible exact H2_) | with_reducible exact H | (rw [hy417]; exact H) | exact H
  have Ny417 := aM hy417
  clear hy417
  replace H := Option.bind_eq_some_iff.mp H
  obtain ⟨⟨t420, t421, t422, t423, t424, t425⟩, A70, H⟩ := H
  replace H : ((bodkinlaw19_char.f 55 true).bind fun bt429 => (bodkinlaw19_BindTable.l0 k a0 (([[], y399, y408, y417, (([(⟨t420, t421, t422, t423, t424, t425⟩ : S25)] : List (S25))), (([(⟨bt429.1, bt429.2.1, bt429.2.2.1, bt429.2.2.2.1, bt429.2.2.2.2.1, bt429.2.2.2.2.2⟩ : S25)] : List (S25)))] : List (List (S25)))) 0)) = some r := H
  have A7 := aM A70
  clear A70
  obtain ⟨y426, hy426⟩ : ∃ y_ : List (S25), y_ = (([(⟨t420, t421, t422, t423, t424, t425⟩ : S25)] : List (S25))) := ⟨_, rfl⟩
  replace H : ((bodkinlaw19_char.f 55 true).bind fun bt429 => (bodkinlaw19_BindTable.l0 k a0 (([[], y399, y408, y417, y426, (([(⟨bt429.1, bt429.2.1, bt429.2.2.1, bt429.2.2.2.1, bt429.2.2.2.2.1, bt429.2.2.2.2.2⟩ : S25)] : List (S25)))] : List (List (S25)))) 0)) = some r := by first | (rw [hy426]; with_reducible exact H) | (have H2_ := (Option.bind_some _ _).symm.trans H; rw [hy426]; with_reducible exact H2_) | (have H2_ := (Option.bind_some _ _).symm.trans H; with_reducible exact H2_) | with_reducible exact H | (rw [hy426]; exact H) | exact H
  have Ny426 := aM hy426
  clear hy426
  replace H := Option.bind_eq_some_iff.mp H
  obtain ⟨⟨t429, t430, t431, t432, t433, t434⟩, A80, H⟩ := H
  replace H : (bodkinlaw19_BindTable.l0 k a0 (([[], y399, y408, y417, y426, (([(⟨t429, t430, t431, t432, t433, t434⟩ : S25)] : List (S25)))] : List (List (S25)))) 0) = some r := H
  have A8 := aM A80
  clear A80
  obtain ⟨y435, hy435⟩ : ∃ y_ : List (S25), y_ = (([(⟨t429, t430, t431, t432, t433, t434⟩ : S25)] : List (S25))) := ⟨_, rfl⟩
  replace H : (bodkinlaw19_BindTable.l0 k a0 (([[], y399, y408, y417, y426, y435] : List (List (S25)))) 0) = some r := by first | (rw [hy435]; with_reducible exact H) | (have H2_ := (Option.bind_some _ _).symm.trans H; rw [hy435]; with_reducible exact H2_) | (have H2_ := (Option.bind_some _ _).symm.trans H; with_reducible exact H2_) | with_reducible exact H | (rw [hy435]; exact H) | exact H
  have Ny435 := aM hy435
  clear hy435
  obtain ⟨y438, hy438⟩ : ∃ y_ : List (List (S25)), y_ = (([[], y399, y408, y417, y426, y435] : List (List (S25)))) := ⟨_, rfl⟩
  replace H : (bodkinlaw19_BindTable.l0 k a0 y438 0) = some r := by first | (rw [hy438]; with_reducible exact H) | (have H2_ := (Option.bind_some _ _).symm.trans H; rw [hy438]; with_reducible exact H2_) | (have H2_ := (Option.bind_some _ _).symm.trans H; with_reducible exact H2_) | with_reducible exact H | (rw [hy438]; exact H) | exact H
  have Ny438 := aM hy438
  clear hy438
  have H' := aM H
  clear H
  go_enter Try.func7, Try.ntmps7
  go_wp2_with (first | ((with_reducible refine gate_callee (f := 13) rfl ?_); refine goesL_ (some 11) rfl rfl Try.func13 (by kernel_rfl) rfl #[] rfl (by (try simp only [List.map_toArray, List.map_cons, List.map_nil]); first | done | rfl | (simp only [List.length_drop, List.length_take]; rfl)) ?_; (with_reducible refine (bodkinlaw19_binds.calls k  true _ A2.1).mono ?_); rintro e w9 ⟨rfl, hb⟩; refine ⟨_, rfl, ?_⟩; replace HB := aM (bwP (by apply_rules (transparency := .reducible) [HB.1, bwA, bwN, bwD]) hb); (try clear hb); (try clear hb2); (try clear hk); (try clear hi)) | ((with_reducible refine gate_callee (f := 14) rfl ?_); refine goesL_ (some 13) rfl rfl Try.func14 (by kernel_rfl) rfl #[.int .i32 81] rfl (by (try simp only [List.map_toArray, List.map_cons, List.map_nil]); first | done | rfl | (simp only [List.length_drop, List.length_take]; rfl)) ?_; (with_reducible refine (bodkinlaw19_ctrl.calls 81 t393 t394 t395 t396 t397 t398 _ A4.1).mono ?_); rintro e w10 ⟨rfl, hb⟩; refine ⟨_, rfl, ?_⟩; replace HB := aM (bwP (by apply_rules (transparency := .reducible) [HB.1, bwA, bwN, bwD]) hb); (try clear hb); (try clear hb2); (try clear hk); (try clear hi)) | ((with_reducible refine gate_dst (N := 14) rfl ?_); refine Kd.R_lit k25 _ 25 ?hg (N := 14) ?hd (xs := ([(⟨t393, t394, t395, t396, t397, t398⟩ : S25)] : List (S25))) (inner := [.int .i64 t393, .int .i32 t394, .bool t395, .bool t396, .bool t397, .string t398]) (ok := fun _ => True) (okp := fun _ => True) ?hr ?hp (fun _ hk => hk) trivial (Below.refl _ _) (Nat.le_refl _) (by simp) ?_; (case hd => rfl); (case hg => rfl); (case hr => first | (go_simp; done) | (go_simp; rfl)); (case hp => exact (Reps.c6 (show Kd.M k25 _ _ _ (⟨t393, t394, t395, t396, t397, t398⟩ : S25) [.int .i64 t393, .int .i32 t394, .bool t395, .bool t396, .bool t397, .string t398] from (k25_mkM _ _ _ (⟨t393, t394, t395, t396, t397, t398⟩ : S25) )) (Reps.none _ _))); intro v400 w11 ho12 hb hg_ hnew_; clear hg_ hnew_; (first | rw [← Ny399.1] at ho12 | (simp only [Int.reduceToNat] at ho12; rw [← Ny399.1] at ho12)); have HO401 := aM (Kd.R_lower ho12 (bwZ (by apply_rules (transparency := .reducible) [HB.1, bwA, bwN, bwD]))); replace HB := aM (bwP (by apply_rules (transparency := .reducible) [HB.1, bwA, bwN, bwD]) hb); clear hb ho12) | ((with_reducible refine gate_callee (f := 14) rfl ?_); refine goesL_ (some 15) rfl rfl Try.func14 (by kernel_rfl) rfl #[.int .i32 88] rfl (by (try simp only [List.map_toArray, List.map_cons, List.map_nil]); first | done | rfl | (simp only [List.length_drop, List.length_take]; rfl)) ?_; (with_reducible refine (bodkinlaw19_ctrl.calls 88 t402 t403 t404 t405 t406 t407 _ A5.1).mono ?_); rintro e w13 ⟨rfl, hb⟩; refine ⟨_, rfl, ?_⟩; replace HO401 := aM (Kd.R_below (by (with_reducible repeat first | apply Kd.R_alloc | apply Kd.R_drewN | apply Kd.R_drew); exact HO401.1) hb); replace HB := aM (bwP (by apply_rules (transparency := .reducible) [HB.1, bwA, bwN, bwD]) hb); (try clear hb); (try clear hb2); (try clear hk); (try clear hi)) | ((with_reducible refine gate_dst (N := 16) rfl ?_); refine Kd.R_lit k25 _ 25 ?hg (N := 16) ?hd (xs := ([(⟨t402, t403, t404, t405, t406, t407⟩ : S25)] : List (S25))) (inner := [.int .i64 t402, .int .i32 t403, .bool t404, .bool t405, .bool t406, .string t407]) (ok := fun _ => True) (okp := fun _ => True) ?hr ?hp (fun _ hk => hk) trivial (Below.refl _ _) (Nat.le_refl _) (by simp) ?_; (case hd => rfl); (case hg => rfl); (case hr => first | (go_simp; done) | (go_simp; rfl)); (case hp => exact (Reps.c6 (show Kd.M k25 _ _ _ (⟨t402, t403, t404, t405, t406, t407⟩ : S25) [.int .i64 t402, .int .i32 t403, .bool t404, .bool t405, .bool t406, .string t407] from (k25_mkM _ _ _ (⟨t402, t403, t404, t405, t406, t407⟩ : S25) )) (Reps.none _ _))); intro v409 w14 ho15 hb hg_ hnew_; clear hg_ hnew_; (first | rw [← Ny408.1] at ho15 | (simp only [Int.reduceToNat] at ho15; rw [← Ny408.1] at ho15)); have HO410 := aM (Kd.R_lower (Kd.R_new' ho15 (Kd.R_lt (by (with_reducible repeat first | apply Kd.R_alloc | apply Kd.R_drewN | apply Kd.R_drew); exact HO401.1))) (bwZ (by apply_rules (transparency := .reducible) [HB.1, bwA, bwN, bwD]))); replace HO401 := aM (Kd.R_elder' (by (with_reducible repeat first | apply Kd.R_alloc | apply Kd.R_drewN | apply Kd.R_drew); exact HO401.1) (Kd.R_base ho15) hb); replace HB := aM (bwP (by apply_rules (transparency := .reducible) [HB.1, bwA, bwN, bwD]) hb); clear hb ho15) | ((with_reducible refine gate_callee (f := 15) rfl ?_); refine goesL_ (some 17) rfl rfl Try.func15 (by kernel_rfl) rfl #[.int .i32 109, .bool true] rfl (by (try simp only [List.map_toArray, List.map_cons, List.map_nil]); first | done | rfl | (simp only [List.length_drop, List.length_take]; rfl)) ?_; (with_reducible refine (bodkinlaw19_char.calls 109 true t411 t412 t413 t414 t415 t416 _ A6.1).mono ?_); rintro e w16 ⟨rfl, hb⟩; refine ⟨_, rfl, ?_⟩; replace HO401 := aM (Kd.R_below (by (with_reducible repeat first | apply Kd.R_alloc | apply Kd.R_drewN | apply Kd.R_drew); exact HO401.1) hb); replace HO410 := aM (Kd.R_below (by (with_reducible repeat first | apply Kd.R_alloc | apply Kd.R_drewN | apply Kd.R_drew); exact HO410.1) hb); replace HB := aM (bwP (by apply_rules (transparency := .reducible) [HB.1, bwA, bwN, bwD]) hb); (try clear hb); (try clear hb2); (try clear hk); (try clear hi)) | ((with_reducible refine gate_dst (N := 18) rfl ?_); refine Kd.R_lit k25 _ 25 ?hg (N := 18) ?hd (xs := ([(⟨t411, t412, t413, t414, t415, t416⟩ : S25)] : List (S25))) (inner := [.int .i64 t411, .int .i32 t412, .bool t413, .bool t414, .bool t415, .string t416]) (ok := fun _ => True) (okp := fun _ => True) ?hr ?hp (fun _ hk => hk) trivial (Below.refl _ _) (Nat.le_refl _) (by simp) ?_; (case hd => rfl); (case hg => rfl); (case hr => first | (go_simp; done) | (go_simp; rfl)); (case hp => exact (Reps.c6 (show Kd.M k25 _ _ _ (⟨t411, t412, t413, t414, t415, t416⟩ : S25) [.int .i64 t411, .int .i32 t412, .bool t413, .bool t414, .bool t415, .string t416] from (k25_mkM _ _ _ (⟨t411, t412, t413, t414, t415, t416⟩ : S25) )) (Reps.none _ _))); intro v418 w17 ho18 hb hg_ hnew_; clear hg_ hnew_; (first | rw [← Ny417.1] at ho18 | (simp only [Int.reduceToNat] at ho18; rw [← Ny417.1] at ho18)); have HO419 := aM (Kd.R_lower (Kd.R_new' (Kd.R_new' ho18 (Kd.R_lt (by (with_reducible repeat first | apply Kd.R_alloc | apply Kd.R_drewN | apply Kd.R_drew); exact HO401.1))) (Kd.R_lt (by (with_reducible repeat first | apply Kd.R_alloc | apply Kd.R_drewN | apply Kd.R_drew); exact HO410.1))) (bwZ (by apply_rules (transparency := .reducible) [HB.1, bwA, bwN, bwD]))); replace HO401 := aM (Kd.R_elder' (by (with_reducible repeat first | apply Kd.R_alloc | apply Kd.R_drewN | apply Kd.R_drew); exact HO401.1) (Kd.R_base ho18) hb); replace HO410 := aM (Kd.R_elder' (by (with_reducible repeat first | apply Kd.R_alloc | apply Kd.R_drewN | apply Kd.R_drew); exact HO410.1) (Kd.R_base ho18) hb); replace HB := aM (bwP (by apply_rules (transparency := .reducible) [HB.1, bwA, bwN, bwD]) hb); clear hb ho18) | ((with_reducible refine gate_callee (f := 15) rfl ?_); refine goesL_ (some 19) rfl rfl Try.func15 (by kernel_rfl) rfl #[.int .i32 39, .bool true] rfl (by (try simp only [List.map_toArray, List.map_cons, List.map_nil]); first | done | rfl | (simp only [List.length_drop, List.length_take]; rfl)) ?_; (with_reducible refine (bodkinlaw19_char.calls 39 true t420 t421 t422 t423 t424 t425 _ A7.1).mono ?_); rintro e w19 ⟨rfl, hb⟩; refine ⟨_, rfl, ?_⟩; replace HO401 := aM (Kd.R_below (by (with_reducible repeat first | apply Kd.R_alloc | apply Kd.R_drewN | apply Kd.R_drew); exact HO401.1) hb); replace HO410 := aM (Kd.R_below (by (with_reducible repeat first | apply Kd.R_alloc | apply Kd.R_drewN | apply Kd.R_drew); exact HO410.1) hb); replace HO419 := aM (Kd.R_below (by (with_reducible repeat first | apply Kd.R_alloc | apply Kd.R_drewN | apply Kd.R_drew); exact HO419.1) hb); replace HB := aM (bwP (by apply_rules (transparency := .reducible) [HB.1, bwA, bwN, bwD]) hb); (try clear hb); (try clear hb2); (try clear hk); (try clear hi)) | ((with_reducible refine gate_dst (N := 20) rfl ?_); refine Kd.R_lit k25 _ 25 ?hg (N := 20) ?hd (xs := ([(⟨t420, t421, t422, t423, t424, t425⟩ : S25)] : List (S25))) (inner := [.int .i64 t420, .int .i32 t421, .bool t422, .bool t423, .bool t424, .string t425]) (ok := fun _ => True) (okp := fun _ => True) ?hr ?hp (fun _ hk => hk) trivial (Below.refl _ _) (Nat.le_refl _) (by simp) ?_; (case hd => rfl); (case hg => rfl); (case hr => first | (go_simp; done) | (go_simp; rfl)); (case hp => exact (Reps.c6 (show Kd.M k25 _ _ _ (⟨t420, t421, t422, t423, t424, t425⟩ : S25) [.int .i64 t420, .int .i32 t421, .bool t422, .bool t423, .bool t424, .string t425] from (k25_mkM _ _ _ (⟨t420, t421, t422, t423, t424, t425⟩ : S25) )) (Reps.none _ _))); intro v427 w20 ho21 hb hg_ hnew_; clear hg_ hnew_; (first | rw [← Ny426.1] at ho21 | (simp only [Int.reduceToNat] at ho21; rw [← Ny426.1] at ho21)); have HO428 := aM (Kd.R_lower (Kd.R_new' (Kd.R_new' (Kd.R_new' ho21 (Kd.R_lt (by (with_reducible repeat first | apply Kd.R_alloc | apply Kd.R_drewN | apply Kd.R_drew); exact HO401.1))) (Kd.R_lt (by (with_reducible repeat first | apply Kd.R_alloc | apply Kd.R_drewN | apply Kd.R_drew); exact HO410.1))) (Kd.R_lt (by (with_reducible repeat first | apply Kd.R_alloc | apply Kd.R_drewN | apply Kd.R_drew); exact HO419.1))) (bwZ (by apply_rules (transparency := .reducible) [HB.1, bwA, bwN, bwD]))); replace HO401 := aM (Kd.R_elder' (by (with_reducible repeat first | apply Kd.R_alloc | apply Kd.R_drewN | apply Kd.R_drew); exact HO401.1) (Kd.R_base ho21) hb); replace HO410 := aM (Kd.R_elder' (by (with_reducible repeat first | apply Kd.R_alloc | apply Kd.R_drewN | apply Kd.R_drew); exact HO410.1) (Kd.R_base ho21) hb); replace HO419 := aM (Kd.R_elder' (by (with_reducible repeat first | apply Kd.R_alloc | apply Kd.R_drewN | apply Kd.R_drew); exact HO419.1) (Kd.R_base ho21) hb); replace HB := aM (bwP (by apply_rules (transparency := .reducible) [HB.1, bwA, bwN, bwD]) hb); clear hb ho21) | ((with_reducible refine gate_callee (f := 15) rfl ?_); refine goesL_ (some 21) rfl rfl Try.func15 (by kernel_rfl) rfl #[.int .i32 55, .bool true] rfl (by (try simp only [List.map_toArray, List.map_cons, List.map_nil]); first | done | rfl | (simp only [List.length_drop, List.length_take]; rfl)) ?_; (with_reducible refine (bodkinlaw19_char.calls 55 true t429 t430 t431 t432 t433 t434 _ A8.1).mono ?_); rintro e w22 ⟨rfl, hb⟩; refine ⟨_, rfl, ?_⟩; replace HO401 := aM (Kd.R_below (by (with_reducible repeat first | apply Kd.R_alloc | apply Kd.R_drewN | apply Kd.R_drew); exact HO401.1) hb); replace HO410 := aM (Kd.R_below (by (with_reducible repeat first | apply Kd.R_alloc | apply Kd.R_drewN | apply Kd.R_drew); exact HO410.1) hb); replace HO419 := aM (Kd.R_below (by (with_reducible repeat first | apply Kd.R_alloc | apply Kd.R_drewN | apply Kd.R_drew); exact HO419.1) hb); replace HO428 := aM (Kd.R_below (by (with_reducible repeat first | apply Kd.R_alloc | apply Kd.R_drewN | apply Kd.R_drew); exact HO428.1) hb); replace HB := aM (bwP (by apply_rules (transparency := .reducible) [HB.1, bwA, bwN, bwD]) hb); (try clear hb); (try clear hb2); (try clear hk); (try clear hi)) | ((with_reducible refine gate_dst (N := 22) rfl ?_); refine Kd.R_lit k25 _ 25 ?hg (N := 22) ?hd (xs := ([(⟨t429, t430, t431, t432, t433, t434⟩ : S25)] : List (S25))) (inner := [.int .i64 t429, .int .i32 t430, .bool t431, .bool t432, .bool t433, .string t434]) (ok := fun _ => True) (okp := fun _ => True) ?hr ?hp (fun _ hk => hk) trivial (Below.refl _ _) (Nat.le_refl _) (by simp) ?_; (case hd => rfl); (case hg => rfl); (case hr => first | (go_simp; done) | (go_simp; rfl)); (case hp => exact (Reps.c6 (show Kd.M k25 _ _ _ (⟨t429, t430, t431, t432, t433, t434⟩ : S25) [.int .i64 t429, .int .i32 t430, .bool t431, .bool t432, .bool t433, .string t434] from (k25_mkM _ _ _ (⟨t429, t430, t431, t432, t433, t434⟩ : S25) )) (Reps.none _ _))); intro v436 w23 ho24 hb hg_ hnew_; clear hg_ hnew_; (first | rw [← Ny435.1] at ho24 | (simp only [Int.reduceToNat] at ho24; rw [← Ny435.1] at ho24)); have HO437 := aM (Kd.R_lower (Kd.R_new' (Kd.R_new' (Kd.R_new' (Kd.R_new' ho24 (Kd.R_lt (by (with_reducible repeat first | apply Kd.R_alloc | apply Kd.R_drewN | apply Kd.R_drew); exact HO401.1))) (Kd.R_lt (by (with_reducible repeat first | apply Kd.R_alloc | apply Kd.R_drewN | apply Kd.R_drew); exact HO410.1))) (Kd.R_lt (by (with_reducible repeat first | apply Kd.R_alloc | apply Kd.R_drewN | apply Kd.R_drew); exact HO419.1))) (Kd.R_lt (by (with_reducible repeat first | apply Kd.R_alloc | apply Kd.R_drewN | apply Kd.R_drew); exact HO428.1))) (bwZ (by apply_rules (transparency := .reducible) [HB.1, bwA, bwN, bwD]))); replace HO401 := aM (Kd.R_elder' (by (with_reducible repeat first | apply Kd.R_alloc | apply Kd.R_drewN | apply Kd.R_drew); exact HO401.1) (Kd.R_base ho24) hb); replace HO410 := aM (Kd.R_elder' (by (with_reducible repeat first | apply Kd.R_alloc | apply Kd.R_drewN | apply Kd.R_drew); exact HO410.1) (Kd.R_base ho24) hb); replace HO419 := aM (Kd.R_elder' (by (with_reducible repeat first | apply Kd.R_alloc | apply Kd.R_drewN | apply Kd.R_drew); exact HO419.1) (Kd.R_base ho24) hb); replace HO428 := aM (Kd.R_elder' (by (with_reducible repeat first | apply Kd.R_alloc | apply Kd.R_drewN | apply Kd.R_drew); exact HO428.1) (Kd.R_base ho24) hb); replace HB := aM (bwP (by apply_rules (transparency := .reducible) [HB.1, bwA, bwN, bwD]) hb); clear hb ho24; obtain ⟨Ao25, co25, eo25⟩ := Kd.R_slice HO401.1; subst eo25; obtain ⟨Ao26, co26, eo26⟩ := Kd.R_slice HO410.1; subst eo26; obtain ⟨Ao27, co27, eo27⟩ := Kd.R_slice HO419.1; subst eo27; obtain ⟨Ao28, co28, eo28⟩ := Kd.R_slice HO428.1; subst eo28; obtain ⟨Ao29, co29, eo29⟩ := Kd.R_slice HO437.1; subst eo29) | ((with_reducible refine gate_dst (N := 23) rfl ?_); refine Kd.N_lit (Kd.slice 25 k25) _ 27 ?hg (N' := 23) ?hd (xs := ([[], y399, y408, y417, y426, y435] : List (List (S25)))) (inner := [.slice none 0 0, .slice Ao25 y399.length co25, .slice Ao26 y408.length co26, .slice Ao27 y417.length co27, .slice Ao28 y426.length co28, .slice Ao29 y435.length co29]) (ok := (fun _ => True)) (okp := (fun _ => True)) ?hr ?hp (fun _ hk => hk) ((show ∀ k_, w23.heap.size ≤ k_ → (fun _ => True) k_ from fun k_ hk => trivial) _ (Nat.le_refl _)) (Below.refl _ _) (Nat.le_refl _) (by simp) ?_; (case hd => rfl); (case hg => rfl); (case hr => first | (go_simp; done) | (go_simp; rfl)); (case hp => exact (Reps.one (show Kd.FK (Kd.slice 25 k25) _ _ [] [.slice none 0 0] from (Kd.FK_slice_mk (Nat.le_refl _) (Kd.F_nil _ _ _))) (Reps.one (show Kd.FK (Kd.slice 25 k25) _ _ y399 [.slice Ao25 y399.length co25] from (Kd.FK_slice_mk (Kd.R_reads' (Kd.R_mono (ok' := (fun _ => True)) (HO401.1) (fun k_ hk => trivial))).2.1 (Kd.R_F (Kd.R_mono (ok' := (fun _ => True)) (HO401.1) (fun k_ hk => trivial))))) (Reps.one (show Kd.FK (Kd.slice 25 k25) _ _ y408 [.slice Ao26 y408.length co26] from (Kd.FK_slice_mk (Kd.R_reads' (Kd.R_mono (ok' := (fun _ => True)) (HO410.1) (fun k_ hk => trivial))).2.1 (Kd.R_F (Kd.R_mono (ok' := (fun _ => True)) (HO410.1) (fun k_ hk => trivial))))) (Reps.one (show Kd.FK (Kd.slice 25 k25) _ _ y417 [.slice Ao27 y417.length co27] from (Kd.FK_slice_mk (Kd.R_reads' (Kd.R_mono (ok' := (fun _ => True)) (HO419.1) (fun k_ hk => trivial))).2.1 (Kd.R_F (Kd.R_mono (ok' := (fun _ => True)) (HO419.1) (fun k_ hk => trivial))))) (Reps.one (show Kd.FK (Kd.slice 25 k25) _ _ y426 [.slice Ao28 y426.length co28] from (Kd.FK_slice_mk (Kd.R_reads' (Kd.R_mono (ok' := (fun _ => True)) (HO428.1) (fun k_ hk => trivial))).2.1 (Kd.R_F (Kd.R_mono (ok' := (fun _ => True)) (HO428.1) (fun k_ hk => trivial))))) (Reps.one (show Kd.FK (Kd.slice 25 k25) _ _ y435 [.slice Ao29 y435.length co29] from (Kd.FK_slice_mk (Kd.R_reads' (Kd.R_mono (ok' := (fun _ => True)) (HO437.1) (fun k_ hk => trivial))).2.1 (Kd.R_F (Kd.R_mono (ok' := (fun _ => True)) (HO437.1) (fun k_ hk => trivial))))) (Reps.none _ _)))))))); intro v439 w30 ho31 hb hg_ hnew_; clear hg_ hnew_; (first | rw [← Ny438.1] at ho31 | (simp only [Int.reduceToNat] at ho31; rw [← Ny438.1] at ho31)); have n0_ := aM (Kd.N_lower ho31 (bwZ (by apply_rules (transparency := .reducible) [HB.1, bwA, bwN, bwD]))); have n1_ := aM (bwP (by apply_rules (transparency := .reducible) [HB.1, bwA, bwN, bwD]) hb); clear HB; clear HO401; clear HO410; clear HO419; clear HO428; clear HO437; have HO440 := n0_; have HB := n1_; clear n0_ n1_; clear hb ho31))
  go_loopg [4] k (fun kq v4 w' => ∃ (x4_1 : Int), v4 = .int .i64 x4_1 ∧ Aside0 (bodkinlaw19_BindTable.l0 kq a0 y438 x4_1 = some r) ∧ Aside0 (kq ≤ k) ∧ Aside0 (Kd.N (Kd.slice 25 k25) 27 w' w.heap.size (fun _ => True) v439 y438) ∧ Aside0 (Below w.heap.size w w'))
  case atStart => exact ⟨(0), (by first | rfl | (simp; done) | (simp [*]; done)), H', ⟨Nat.le_refl _⟩, ⟨by (with_reducible repeat (first | apply Kd.N_alloc | apply Kd.N_drewN | apply Kd.N_drew)); exact HO440.1⟩, ⟨by apply_rules (transparency := .reducible) [HB.1, bwA, bwN, bwD]⟩⟩
  clear H'
  try clear c3
  try clear c6
  obtain ⟨x4_1, rfl, HA, HK1, HO_3, HB⟩ := hrel
  obtain _ | k1 := gk
  ·exact absurd HA.1 (by simp [bodkinlaw19_BindTable.l0])
  have H := HA.1
  clear HA
  simp only [bodkinlaw19_BindTable.l0] at H
  by_cases c32 : x4_1 ≤ 19
  ·rw [if_pos c32] at H
   have c32b0 : decide (x4_1 ≤ 19) = true := decide_eq_true c32
   clear c32
   have HC33 := aM H
   clear H
   go_upto_region 8 with (fail)
   go_cut [33] (fun v33 wc => ∃ (kq : Nat) (x33_32 : Bool), v33 = .bool x33_32 ∧ Aside0 (bodkinlaw19_BindTable.j1 kq a0 y438 x4_1 1 x33_32 = some r) ∧ Aside0 (kq ≤ k1) ∧ Aside0 (Kd.N (Kd.slice 25 k25) 27 wc w.heap.size (fun _ => True) v439 y438) ∧ Aside0 (Below w.heap.size w wc))
   case first =>
    have H := HC33.1
    clear HC33
    by_cases c34 : x4_1 = 1
    ·rw [if_pos c34] at H
     have c34b0 : (x4_1 == 1) = true := beq_iff_eq.mpr c34
     have c34b1 : (x4_1 != 1) = false := bne_eq_false_iff_eq.mpr c34
     clear c34
     (first | rw [c34b0] | (simp only [i64_w, i32_w]; rw [c34b0]) | skip)
     have H' := aM H
     clear H
     go_wp2
     go_meet
     case rel => exact ⟨_, (true), (by first | rfl | (simp; done) | (simp [*]; done)), H', ⟨by have := HK1.out; first | omega | exact Nat.le_refl _⟩, ⟨by (with_reducible repeat (first | apply Kd.N_alloc | apply Kd.N_drewN | apply Kd.N_drew)); exact HO_3.out⟩, ⟨by apply_rules (transparency := .reducible) [HB.1, bwA, bwN, bwD]⟩⟩
    rw [if_neg c34] at H
    have c34b0 : (x4_1 == 1) = false := beq_eq_false_iff_ne.mpr c34
    have c34b1 : (x4_1 != 1) = true := bne_iff_ne.mpr c34
    (first | rw [c34b0] | (simp only [i64_w, i32_w]; rw [c34b0]) | skip)
    have H' := aM H
    clear H
    go_wp2
    go_meet
    case rel => exact ⟨_, ((x4_1 == 2)), (by first | rfl | (simp; done) | (simp [*]; done)), H', ⟨by have := HK1.out; first | omega | exact Nat.le_refl _⟩, ⟨by (with_reducible repeat (first | apply Kd.N_alloc | apply Kd.N_drewN | apply Kd.N_drew)); exact HO_3.out⟩, ⟨by apply_rules (transparency := .reducible) [HB.1, bwA, bwN, bwD]⟩⟩
   clear HC33
   try clear c3
   try clear c6
   try clear c32
   try clear c32b0
   obtain ⟨kq, x33_32, rfl, HA, HJ32, HO_3, HB⟩ := hcut
   obtain _ | kj32 := kq
   ·exact absurd HA.1 (by simp [bodkinlaw19_BindTable.j1])
   have H := HA.1
   clear HA
   simp only [bodkinlaw19_BindTable.j1] at H
   have HC35 := aM H
   clear H
   go_upto_if 33 with (fail)
   go_cut [5] (fun v5 wc => ∃ (kq : Nat) (x5_34 : Int), v5 = .int .i32 x5_34 ∧ Aside0 (bodkinlaw19_BindTable.j2 kq a0 y438 x4_1 x5_34 = some r) ∧ Aside0 (kq ≤ kj32) ∧ Aside0 (Kd.N (Kd.slice 25 k25) 27 wc w.heap.size (fun _ => True) v439 y438) ∧ Aside0 (Below w.heap.size w wc))
   case first =>
    have H := HC35.1
    clear HC35
    by_cases c36 : x33_32 = true
    ·subst c36
     replace H : (bodkinlaw19_BindTable.j2 kj32 a0 y438 x4_1 255) = some r := by rw [if_pos rfl] at H; exact H
     have H' := aM H
     clear H
     go_wp2
     go_meet
     case rel => exact ⟨_, (255), (by first | rfl | (simp; done) | (simp [*]; done)), H', ⟨by have := HK1.out; have := HJ32.1; first | omega | exact Nat.le_refl _⟩, ⟨by (with_reducible repeat (first | apply Kd.N_alloc | apply Kd.N_drewN | apply Kd.N_drew)); exact HO_3.out⟩, ⟨by apply_rules (transparency := .reducible) [HB.1, bwA, bwN, bwD]⟩⟩
    replace c36 := Bool.eq_false_iff.mpr c36
    subst c36
    replace H : (bodkinlaw19_BindTable.j2 kj32 a0 y438 x4_1 1) = some r := by rw [if_neg (show ¬ (false = true) by decide)] at H; exact H
    have H' := aM H
    clear H
    go_wp2
    go_meet
    case rel => exact ⟨_, (1), (by first | rfl | (simp; done) | (simp [*]; done)), H', ⟨by have := HK1.out; have := HJ32.1; first | omega | exact Nat.le_refl _⟩, ⟨by (with_reducible repeat (first | apply Kd.N_alloc | apply Kd.N_drewN | apply Kd.N_drew)); exact HO_3.out⟩, ⟨by apply_rules (transparency := .reducible) [HB.1, bwA, bwN, bwD]⟩⟩
   clear HC35
   try clear c3
   try clear c6
   try clear c32
   try clear c32b0
   obtain ⟨kq, x5_34, rfl, HA, HJ34, HO_3, HB⟩ := hcut
   obtain _ | kj34 := kq
   ·exact absurd HA.1 (by simp [bodkinlaw19_BindTable.j2])
   have H := HA.1
   clear HA
   simp only [bodkinlaw19_BindTable.j2] at H
   have H' := aM H
   clear H
   go_wp2
   go_loopg [6] kj34 (fun kq v6 w' => ∃ (x6_4 : Int), v6 = .int .i32 x6_4 ∧ Aside0 (bodkinlaw19_BindTable.l1 kq a0 y438 x4_1 x5_34 x6_4 = some r) ∧ Aside0 (kq ≤ kj34) ∧ Aside0 (Kd.N (Kd.slice 25 k25) 27 w' w.heap.size (fun _ => True) v439 y438) ∧ Aside0 (Below w.heap.size w w'))
   case atStart => exact ⟨(0), (by first | rfl | (simp; done) | (simp [*]; done)), H', ⟨Nat.le_refl _⟩, ⟨by (with_reducible repeat (first | apply Kd.N_alloc | apply Kd.N_drewN | apply Kd.N_drew)); exact HO_3.out⟩, ⟨by apply_rules (transparency := .reducible) [HB.1, bwA, bwN, bwD]⟩⟩
   clear H'
   try clear c3
   try clear c6
   try clear c32
   try clear c32b0
   obtain ⟨x6_4, rfl, HA, HK4, HO_3, HB⟩ := hrel
   obtain _ | k4 := gk
   ·exact absurd HA.1 (by simp [bodkinlaw19_BindTable.l1])
   have H := HA.1
   clear HA
   simp only [bodkinlaw19_BindTable.l1] at H
   by_cases c37 : x6_4 ≤ x5_34
   ·rw [if_pos c37] at H
    have c37b0 : decide (x6_4 ≤ x5_34) = true := decide_eq_true c37
    clear c37
    have HC38 := aM H
    clear H
    go_upto_region 14 with (first | ((with_reducible refine gate_dst (N := 7) rfl ?_); refine box_event ?hg (N := 7) ?hd (cs := #[.int .i64 0, .int .i32 0, .bool false, .bool false, .bool false, .string (⟨#[]⟩ : ByteArray)]) (t := 25) ?hr ?_; (case hd => rfl); (case hg => rfl); (case hr => first | (go_simp; done) | (go_simp; rfl)); intro gb441 hg w39 hbox hb; replace HO_3 := aM (Kd.N_below (Kd.N_elderB (by (with_reducible repeat (first | apply Kd.N_alloc | apply Kd.N_drewN | apply Kd.N_drew)); exact HO_3.out) gb441 (Nat.le_of_eq hg.symm)) hb); have BK441 := aM (hbox); have GW441 := aM ((by rw [hg]; exact (bwZ (by apply_rules (transparency := .reducible) [HB.1, bwA, bwN, bwD])) : w.heap.size ≤ gb441)); have GE441 := aM ((by rw [hg]; exact (bwZ (by apply_rules (transparency := .reducible) [HB.1, bwA, bwN, bwD])) : w.heap.size ≤ gb441)); replace HB := aM (bwP (by apply_rules (transparency := .reducible) [HB.1, bwA, bwN, bwD]) hb); clear hb hbox hg; obtain ⟨z40_0, z40_1, z40_2, z40_3, z40_4, z40_5, z40_6, z40_7, z40_8, z40_9, z40_10, z40_11⟩ := bx6 BK441.1))
    (try simp only [Act.put, List.setIfInBounds_toArray, List.set_cons_zero, List.set_cons_succ])
    go_cut [56] (fun v56 wc => ∃ (kq : Nat) (x56_37 : Bool), v56 = .bool x56_37 ∧ Aside0 (bodkinlaw19_BindTable.j4 kq a0 y438 x4_1 x5_34 x6_4 x56_37 x4_1 x6_4 ((Go.bits .and .u8 a0 1) != 0) ((Go.bits .and .u8 a0 2) != 0) ((Go.bits .and .u8 a0 4) != 0) (⟨#[]⟩ : ByteArray) = some r) ∧ Aside0 (kq ≤ k4) ∧ Aside0 (Kd.N (Kd.slice 25 k25) 27 wc w.heap.size (fun k_ => k_ ≠ gb441) v439 y438) ∧ Aside0 (wc.heap[gb441]? = some (.cells #[.int .i64 x4_1, .int .i32 x6_4, .bool ((Go.bits .and .u8 a0 1) != 0), .bool ((Go.bits .and .u8 a0 2) != 0), .bool ((Go.bits .and .u8 a0 4) != 0), .string (⟨#[]⟩ : ByteArray)] 25 (0, 0))) ∧ Aside0 (Below w.heap.size w wc))
    case first =>
     have H := HC38.1
     clear HC38
     by_cases c41 : x4_1 = 4
     ·rw [if_pos c41] at H
      have c41b0 : (x4_1 == 4) = true := beq_iff_eq.mpr c41
      have c41b1 : (x4_1 != 4) = false := bne_eq_false_iff_eq.mpr c41
      clear c41
      (first | rw [c41b0] | (simp only [i64_w, i32_w]; rw [c41b0]) | skip)
      have H' := aM H
      clear H
      go_wp2
      go_meet
      case rel => exact ⟨_, (true), (by first | rfl | (simp; done) | (simp [*]; done)), H', ⟨by have := HK1.out; have := HJ32.1; have := HJ34.1; have := HK4.out; first | omega | exact Nat.le_refl _⟩, ⟨by (with_reducible repeat (first | apply Kd.N_alloc | apply Kd.N_drewN | apply Kd.N_drew)); exact Kd.N_mono (Kd.N_far (p := ⟨gb441, 5, none⟩) (Kd.N_far (p := ⟨gb441, 4, none⟩) (Kd.N_far (p := ⟨gb441, 3, none⟩) (Kd.N_far (p := ⟨gb441, 2, none⟩) (Kd.N_far (p := ⟨gb441, 1, none⟩) (Kd.N_far (p := ⟨gb441, 0, none⟩) (Kd.N_mono HO_3.out (fun k_ hk => (⟨hk, hk.2⟩ : _ ∧ k_ ≠ gb441))) (fun _ hk => hk.2) (.int .i64 x4_1)) (fun _ hk => hk.2) (.int .i32 x6_4)) (fun _ hk => hk.2) (.bool ((Go.bits .and .u8 a0 1) != 0))) (fun _ hk => hk.2) (.bool ((Go.bits .and .u8 a0 2) != 0))) (fun _ hk => hk.2) (.bool ((Go.bits .and .u8 a0 4) != 0))) (fun _ hk => hk.2) (.string (⟨#[]⟩ : ByteArray))) (fun _ hk => hk.1.2)⟩, ⟨by (with_reducible repeat first | apply bkN | apply bkD | apply bkA); refine bkU (cs := #[.int .i64 x4_1, .int .i32 x6_4, .bool ((Go.bits .and .u8 a0 1) != 0), .bool ((Go.bits .and .u8 a0 2) != 0), .bool ((Go.bits .and .u8 a0 4) != 0), .string (⟨#[]⟩ : ByteArray)]) ?_ 5 _ rfl; (with_reducible repeat first | apply bkN | apply bkD | apply bkA); refine bkU (cs := #[.int .i64 x4_1, .int .i32 x6_4, .bool ((Go.bits .and .u8 a0 1) != 0), .bool ((Go.bits .and .u8 a0 2) != 0), .bool false, .string (⟨#[]⟩ : ByteArray)]) ?_ 4 _ rfl; (with_reducible repeat first | apply bkN | apply bkD | apply bkA); refine put4 (cs := #[.int .i64 0, .int .i32 0, .bool false, .bool false, .bool false, .string (⟨#[]⟩ : ByteArray)]) ?_ rfl; (with_reducible repeat first | apply bkN | apply bkD | apply bkA); exact BK441.1⟩, ⟨by apply_rules (transparency := .reducible) [HB.1, bwA, bwN, bwD, bwS, GE441.1]⟩⟩
     rw [if_neg c41] at H
     have c41b0 : (x4_1 == 4) = false := beq_eq_false_iff_ne.mpr c41
     have c41b1 : (x4_1 != 4) = true := bne_iff_ne.mpr c41
     (first | rw [c41b0] | (simp only [i64_w, i32_w]; rw [c41b0]) | skip)
     have H' := aM H
     clear H
     go_wp2
     go_meet
     case rel => exact ⟨_, (decide (x4_1 ≥ 17)), (by first | rfl | (simp; done) | (simp [*]; done)), H', ⟨by have := HK1.out; have := HJ32.1; have := HJ34.1; have := HK4.out; first | omega | exact Nat.le_refl _⟩, ⟨by (with_reducible repeat (first | apply Kd.N_alloc | apply Kd.N_drewN | apply Kd.N_drew)); exact Kd.N_mono (Kd.N_far (p := ⟨gb441, 5, none⟩) (Kd.N_far (p := ⟨gb441, 4, none⟩) (Kd.N_far (p := ⟨gb441, 3, none⟩) (Kd.N_far (p := ⟨gb441, 2, none⟩) (Kd.N_far (p := ⟨gb441, 1, none⟩) (Kd.N_far (p := ⟨gb441, 0, none⟩) (Kd.N_mono HO_3.out (fun k_ hk => (⟨hk, hk.2⟩ : _ ∧ k_ ≠ gb441))) (fun _ hk => hk.2) (.int .i64 x4_1)) (fun _ hk => hk.2) (.int .i32 x6_4)) (fun _ hk => hk.2) (.bool ((Go.bits .and .u8 a0 1) != 0))) (fun _ hk => hk.2) (.bool ((Go.bits .and .u8 a0 2) != 0))) (fun _ hk => hk.2) (.bool ((Go.bits .and .u8 a0 4) != 0))) (fun _ hk => hk.2) (.string (⟨#[]⟩ : ByteArray))) (fun _ hk => hk.1.2)⟩, ⟨by (with_reducible repeat first | apply bkN | apply bkD | apply bkA); refine bkU (cs := #[.int .i64 x4_1, .int .i32 x6_4, .bool ((Go.bits .and .u8 a0 1) != 0), .bool ((Go.bits .and .u8 a0 2) != 0), .bool ((Go.bits .and .u8 a0 4) != 0), .string (⟨#[]⟩ : ByteArray)]) ?_ 5 _ rfl; (with_reducible repeat first | apply bkN | apply bkD | apply bkA); refine bkU (cs := #[.int .i64 x4_1, .int .i32 x6_4, .bool ((Go.bits .and .u8 a0 1) != 0), .bool ((Go.bits .and .u8 a0 2) != 0), .bool false, .string (⟨#[]⟩ : ByteArray)]) ?_ 4 _ rfl; (with_reducible repeat first | apply bkN | apply bkD | apply bkA); refine put4 (cs := #[.int .i64 0, .int .i32 0, .bool false, .bool false, .bool false, .string (⟨#[]⟩ : ByteArray)]) ?_ rfl; (with_reducible repeat first | apply bkN | apply bkD | apply bkA); exact BK441.1⟩, ⟨by apply_rules (transparency := .reducible) [HB.1, bwA, bwN, bwD, bwS, GE441.1]⟩⟩
    clear HC38
    try clear c3
    try clear c6
    try clear c32
    try clear c32b0
    try clear c37
    try clear c37b0
    try clear z40_0 z40_1 z40_2 z40_3 z40_4 z40_5 z40_6 z40_7 z40_8 z40_9 z40_10 z40_11
    obtain ⟨kq, x56_37, rfl, HA, HJ37, HO_3, BK441, HB⟩ := hcut
    obtain _ | kj37 := kq
    ·exact absurd HA.1 (by simp [bodkinlaw19_BindTable.j4])
    have H := HA.1
    clear HA
    simp only [bodkinlaw19_BindTable.j4] at H
    have HC42 := aM H
    clear H
    go_upto_if 56 with (fail)
    go_cut [] (fun wc => ∃ (kq : Nat) (x442005_41 : ByteArray), Aside0 (bodkinlaw19_BindTable.j5 kq a0 y438 x4_1 x5_34 x6_4 x4_1 x6_4 ((Go.bits .and .u8 a0 1) != 0) ((Go.bits .and .u8 a0 2) != 0) ((Go.bits .and .u8 a0 4) != 0) x442005_41 = some r) ∧ Aside0 (kq ≤ kj37) ∧ Aside0 (Kd.N (Kd.slice 25 k25) 27 wc w.heap.size (fun k_ => k_ ≠ gb441) v439 y438) ∧ Aside0 (wc.heap[gb441]? = some (.cells #[.int .i64 x4_1, .int .i32 x6_4, .bool ((Go.bits .and .u8 a0 1) != 0), .bool ((Go.bits .and .u8 a0 2) != 0), .bool ((Go.bits .and .u8 a0 4) != 0), .string x442005_41] 25 (0, 0))) ∧ Aside0 (Below w.heap.size w wc))
    case first =>
     have H := HC42.1
     clear HC42
     by_cases c43 : x56_37 = true
     ·subst c43
      replace H : (bodkinlaw19_BindTable.j5 kj37 a0 y438 x4_1 x5_34 x6_4 x4_1 x6_4 ((Go.bits .and .u8 a0 1) != 0) ((Go.bits .and .u8 a0 2) != 0) ((Go.bits .and .u8 a0 4) != 0) (⟨#[255]⟩ : ByteArray)) = some r := by rw [if_pos rfl] at H; exact H
      have H' := aM H
      clear H
      obtain ⟨z44_0, z44_1, z44_2, z44_3, z44_4, z44_5, z44_6, z44_7, z44_8, z44_9, z44_10, z44_11⟩ := bx6 BK441.1
      go_wp2
      go_meet
      case rel => exact ⟨_, ((⟨#[255]⟩ : ByteArray)), H', ⟨by have := HK1.out; have := HJ32.1; have := HJ34.1; have := HK4.out; have := HJ37.1; first | omega | exact Nat.le_refl _⟩, ⟨by (with_reducible repeat (first | apply Kd.N_alloc | apply Kd.N_drewN | apply Kd.N_drew)); exact Kd.N_mono (Kd.N_far (p := ⟨gb441, 5, none⟩) (Kd.N_mono HO_3.out (fun k_ hk => (⟨hk, hk⟩ : _ ∧ k_ ≠ gb441))) (fun _ hk => hk.2) (.string (⟨#[255]⟩ : ByteArray))) (fun _ hk => hk.1)⟩, ⟨by (with_reducible repeat first | apply bkN | apply bkD | apply bkA); refine bkU (cs := #[.int .i64 x4_1, .int .i32 x6_4, .bool ((Go.bits .and .u8 a0 1) != 0), .bool ((Go.bits .and .u8 a0 2) != 0), .bool ((Go.bits .and .u8 a0 4) != 0), .string (⟨#[]⟩ : ByteArray)]) ?_ 5 _ rfl; (with_reducible repeat first | apply bkN | apply bkD | apply bkA); exact BK441.1⟩, ⟨by apply_rules (transparency := .reducible) [HB.1, bwA, bwN, bwD, bwS, GE441.1]⟩⟩
     replace c43 := Bool.eq_false_iff.mpr c43
     subst c43
     replace H : (bodkinlaw19_BindTable.j5 kj37 a0 y438 x4_1 x5_34 x6_4 x4_1 x6_4 ((Go.bits .and .u8 a0 1) != 0) ((Go.bits .and .u8 a0 2) != 0) ((Go.bits .and .u8 a0 4) != 0) (⟨#[]⟩ : ByteArray)) = some r := by rw [if_neg (show ¬ (false = true) by decide)] at H; exact H
     have H' := aM H
     clear H
     go_wp2
     go_meet
     case rel => exact ⟨_, ((⟨#[]⟩ : ByteArray)), H', ⟨by have := HK1.out; have := HJ32.1; have := HJ34.1; have := HK4.out; have := HJ37.1; first | omega | exact Nat.le_refl _⟩, ⟨by (with_reducible repeat (first | apply Kd.N_alloc | apply Kd.N_drewN | apply Kd.N_drew)); exact HO_3.out⟩, ⟨by apply_rules (transparency := .reducible) [BK441.1, bkN, bkD, bkA]⟩, ⟨by apply_rules (transparency := .reducible) [HB.1, bwA, bwN, bwD, bwS, GE441.1]⟩⟩
    clear HC42
    try clear c3
    try clear c6
    try clear c32
    try clear c32b0
    try clear c37
    try clear c37b0
    try clear z40_0 z40_1 z40_2 z40_3 z40_4 z40_5 z40_6 z40_7 z40_8 z40_9 z40_10 z40_11
    obtain ⟨kq, x442005_41, HA, HJ41, HO_3, BK441, HB⟩ := hcut
    obtain _ | kj41 := kq
    ·exact absurd HA.1 (by simp [bodkinlaw19_BindTable.j5])
    have H := HA.1
    clear HA
    simp only [bodkinlaw19_BindTable.j5] at H
    have H' := aM H
    clear H
    obtain ⟨Ao45, co45, eo45⟩ := Kd.N_slice HO_3.out
    subst eo45
    go_wp2
    go_loopg [60] kj41 (fun kq v60 w' => ∃ (x60_7 : Int), v60 = .int .i64 x60_7 ∧ Aside0 (bodkinlaw19_BindTable.l2 kq a0 y438 x4_1 x5_34 x6_4 y438 (y438.length : Int) x60_7 x4_1 x6_4 ((Go.bits .and .u8 a0 1) != 0) ((Go.bits .and .u8 a0 2) != 0) ((Go.bits .and .u8 a0 4) != 0) x442005_41 = some r) ∧ Aside0 (kq ≤ kj41) ∧ Aside0 (Kd.N (Kd.slice 25 k25) 27 w' w.heap.size (fun k_ => k_ ≠ gb441) (.slice Ao45 y438.length co45) y438) ∧ Aside0 (Kd.N (Kd.slice 25 k25) 27 w' w.heap.size (fun k_ => k_ ≠ gb441) (.slice Ao45 y438.length co45) y438) ∧ Aside0 (w'.heap[gb441]? = some (.cells #[.int .i64 x4_1, .int .i32 x6_4, .bool ((Go.bits .and .u8 a0 1) != 0), .bool ((Go.bits .and .u8 a0 2) != 0), .bool ((Go.bits .and .u8 a0 4) != 0), .string x442005_41] 25 (0, 0))) ∧ Aside0 (Below w.heap.size w w'))
    case atStart => exact ⟨(0), (by first | rfl | (simp; done) | (simp [*]; done)), H', ⟨Nat.le_refl _⟩, ⟨by (with_reducible repeat (first | apply Kd.N_alloc | apply Kd.N_drewN | apply Kd.N_drew)); exact HO_3.out⟩, ⟨by (with_reducible repeat (first | apply Kd.N_alloc | apply Kd.N_drewN | apply Kd.N_drew)); exact HO_3.out⟩, ⟨by apply_rules (transparency := .reducible) [BK441.1, bkN, bkD, bkA]⟩, ⟨by apply_rules (transparency := .reducible) [HB.1, bwA, bwN, bwD, bwS, GE441.1]⟩⟩
    clear H'
    try clear c3
    try clear c6
    try clear c32
    try clear c32b0
    try clear c37
    try clear c37b0
    try clear z40_0 z40_1 z40_2 z40_3 z40_4 z40_5 z40_6 z40_7 z40_8 z40_9 z40_10 z40_11
    obtain ⟨x60_7, rfl, HA, HK7, HO_3, HO_58, BK441, HB⟩ := hrel
    obtain _ | k7 := gk
    ·exact absurd HA.1 (by simp [bodkinlaw19_BindTable.l2])
    have H := HA.1
    clear HA
    simp only [bodkinlaw19_BindTable.l2] at H
    by_cases c46 : x60_7 < (y438.length : Int)
    ·rw [if_pos c46] at H
     have c46b0 : decide (x60_7 < (y438.length : Int)) = true := decide_eq_true c46
     clear c46
     by_cases c47 : 0 ≤ x60_7
     ·rw [if_pos c47] at H
      have c47b0 : decide (0 ≤ x60_7) = true := decide_eq_true c47
      clear c47
      by_cases c48 : x60_7 < (y438.length : Int)
      ·rw [if_pos c48] at H
       have c48b0 : decide (x60_7 < (y438.length : Int)) = true := decide_eq_true c48
       clear c48
       obtain ⟨y443, hy443⟩ : ∃ y_ : List (S25), y_ = (([] : List (S25))) := ⟨_, rfl⟩
       replace H : (if y443.length + (rd_L8 y438 x60_7).length < 4398046511104 then ((some (y443 ++ (rd_L8 y438 x60_7) : List (S25))).bind fun y446 => ((bodkinlaw19_char.f 122 false).bind fun bt449 => ((some (([(⟨x4_1, x6_4, ((Go.bits .and .u8 a0 1) != 0), ((Go.bits .and .u8 a0 2) != 0), ((Go.bits .and .u8 a0 4) != 0), x442005_41⟩ : S25), (⟨bt449.1, bt449.2.1, bt449.2.2.1, bt449.2.2.2.1, bt449.2.2.2.2.1, bt449.2.2.2.2.2⟩ : S25)] : List (S25)) : List (S25))).bind fun y455 => (if y446.length + y455.length < 4398046511104 then ((some (y446 ++ y455 : List (S25))).bind fun y458 => ((bind_Commands.f k7 y458).bind fun t461 => ((bodkinref19_Commands.f k7 y458).bind fun t464 => ((bodkinlaw19_sameCommands.f k7 t461 t464).bind fun t467 => (if t467 = true then (bodkinlaw19_BindTable.l2 k7 a0 y438 x4_1 x5_34 x6_4 y438 (y438.length : Int) (wrap64 (x60_7 + 1)) x4_1 x6_4 ((Go.bits .and .u8 a0 1) != 0) ((Go.bits .and .u8 a0 2) != 0) ((Go.bits .and .u8 a0 4) != 0) x442005_41) else (some false)))))) else (none))))) else (none)) = some r := by first | (rw [hy443]; with_reducible exact H) | (have H2_ := (Option.bind_some _ _).symm.trans H; rw [hy443]; with_reducible exact H2_) | (have H2_ := (Option.bind_some _ _).symm.trans H; with_reducible exact H2_) | with_reducible exact H | (rw [hy443]; exact H) | exact H
       have Ny443 := aM hy443
       clear hy443
       by_cases c49 : y443.length + (rd_L8 y438 x60_7).length < 4398046511104
       ·rw [if_pos c49] at H
        have LMc49 := aM c49
        clear c49
        obtain ⟨y446, hy446⟩ : ∃ y_ : List (S25), y_ = (y443 ++ (rd_L8 y438 x60_7)) := ⟨_, rfl⟩
        replace H : ((bodkinlaw19_char.f 122 false).bind fun bt449 => ((some (([(⟨x4_1, x6_4, ((Go.bits .and .u8 a0 1) != 0), ((Go.bits .and .u8 a0 2) != 0), ((Go.bits .and .u8 a0 4) != 0), x442005_41⟩ : S25), (⟨bt449.1, bt449.2.1, bt449.2.2.1, bt449.2.2.2.1, bt449.2.2.2.2.1, bt449.2.2.2.2.2⟩ : S25)] : List (S25)) : List (S25))).bind fun y455 => (if y446.length + y455.length < 4398046511104 then ((some (y446 ++ y455 : List (S25))).bind fun y458 => ((bind_Commands.f k7 y458).bind fun t461 => ((bodkinref19_Commands.f k7 y458).bind fun t464 => ((bodkinlaw19_sameCommands.f k7 t461 t464).bind fun t467 => (if t467 = true then (bodkinlaw19_BindTable.l2 k7 a0 y438 x4_1 x5_34 x6_4 y438 (y438.length : Int) (wrap64 (x60_7 + 1)) x4_1 x6_4 ((Go.bits .and .u8 a0 1) != 0) ((Go.bits .and .u8 a0 2) != 0) ((Go.bits .and .u8 a0 4) != 0) x442005_41) else (some false)))))) else (none)))) = some r := by first | (rw [hy446]; with_reducible exact H) | (have H2_ := (Option.bind_some _ _).symm.trans H; rw [hy446]; with_reducible exact H2_) | (have H2_ := (Option.bind_some _ _).symm.trans H; with_reducible exact H2_) | with_reducible exact H | (rw [hy446]; exact H) | exact H
        have Ny446 := aM hy446
        clear hy446
        replace H := Option.bind_eq_some_iff.mp H
        obtain ⟨⟨t449, t450, t451, t452, t453, t454⟩, A500, H⟩ := H
        replace H : ((some (([(⟨x4_1, x6_4, ((Go.bits .and .u8 a0 1) != 0), ((Go.bits .and .u8 a0 2) != 0), ((Go.bits .and .u8 a0 4) != 0), x442005_41⟩ : S25), (⟨t449, t450, t451, t452, t453, t454⟩ : S25)] : List (S25)) : List (S25))).bind fun y455 => (if y446.length + y455.length < 4398046511104 then ((some (y446 ++ y455 : List (S25))).bind fun y458 => ((bind_Commands.f k7 y458).bind fun t461 => ((bodkinref19_Commands.f k7 y458).bind fun t464 => ((bodkinlaw19_sameCommands.f k7 t461 t464).bind fun t467 => (if t467 = true then (bodkinlaw19_BindTable.l2 k7 a0 y438 x4_1 x5_34 x6_4 y438 (y438.length : Int) (wrap64 (x60_7 + 1)) x4_1 x6_4 ((Go.bits .and .u8 a0 1) != 0) ((Go.bits .and .u8 a0 2) != 0) ((Go.bits .and .u8 a0 4) != 0) x442005_41) else (some false)))))) else (none))) = some r := H
        have A50 := aM A500
        clear A500
        obtain ⟨y455, hy455⟩ : ∃ y_ : List (S25), y_ = (([(⟨x4_1, x6_4, ((Go.bits .and .u8 a0 1) != 0), ((Go.bits .and .u8 a0 2) != 0), ((Go.bits .and .u8 a0 4) != 0), x442005_41⟩ : S25), (⟨t449, t450, t451, t452, t453, t454⟩ : S25)] : List (S25))) := ⟨_, rfl⟩
        replace H : (if y446.length + y455.length < 4398046511104 then ((some (y446 ++ y455 : List (S25))).bind fun y458 => ((bind_Commands.f k7 y458).bind fun t461 => ((bodkinref19_Commands.f k7 y458).bind fun t464 => ((bodkinlaw19_sameCommands.f k7 t461 t464).bind fun t467 => (if t467 = true then (bodkinlaw19_BindTable.l2 k7 a0 y438 x4_1 x5_34 x6_4 y438 (y438.length : Int) (wrap64 (x60_7 + 1)) x4_1 x6_4 ((Go.bits .and .u8 a0 1) != 0) ((Go.bits .and .u8 a0 2) != 0) ((Go.bits .and .u8 a0 4) != 0) x442005_41) else (some false)))))) else (none)) = some r := by first | (rw [hy455]; with_reducible exact H) | (have H2_ := (Option.bind_some _ _).symm.trans H; rw [hy455]; with_reducible exact H2_) | (have H2_ := (Option.bind_some _ _).symm.trans H; with_reducible exact H2_) | with_reducible exact H | (rw [hy455]; exact H) | exact H
        have Ny455 := aM hy455
        clear hy455
        by_cases c51 : y446.length + y455.length < 4398046511104
        ·rw [if_pos c51] at H
         have LMc51 := aM c51
         clear c51
         obtain ⟨y458, hy458⟩ : ∃ y_ : List (S25), y_ = (y446 ++ y455) := ⟨_, rfl⟩
         replace H : ((bind_Commands.f k7 y458).bind fun t461 => ((bodkinref19_Commands.f k7 y458).bind fun t464 => ((bodkinlaw19_sameCommands.f k7 t461 t464).bind fun t467 => (if t467 = true then (bodkinlaw19_BindTable.l2 k7 a0 y438 x4_1 x5_34 x6_4 y438 (y438.length : Int) (wrap64 (x60_7 + 1)) x4_1 x6_4 ((Go.bits .and .u8 a0 1) != 0) ((Go.bits .and .u8 a0 2) != 0) ((Go.bits .and .u8 a0 4) != 0) x442005_41) else (some false))))) = some r := by first | (rw [hy458]; with_reducible exact H) | (have H2_ := (Option.bind_some _ _).symm.trans H; rw [hy458]; with_reducible exact H2_) | (have H2_ := (Option.bind_some _ _).symm.trans H; with_reducible exact H2_) | with_reducible exact H | (rw [hy458]; exact H) | exact H
         have Ny458 := aM hy458
         clear hy458
         replace H := Option.bind_eq_some_iff.mp H
         obtain ⟨t461, A520, H⟩ := H
         replace H : ((bodkinref19_Commands.f k7 y458).bind fun t464 => ((bodkinlaw19_sameCommands.f k7 t461 t464).bind fun t467 => (if t467 = true then (bodkinlaw19_BindTable.l2 k7 a0 y438 x4_1 x5_34 x6_4 y438 (y438.length : Int) (wrap64 (x60_7 + 1)) x4_1 x6_4 ((Go.bits .and .u8 a0 1) != 0) ((Go.bits .and .u8 a0 2) != 0) ((Go.bits .and .u8 a0 4) != 0) x442005_41) else (some false)))) = some r := H
         have A52 := aM A520
         clear A520
         replace H := Option.bind_eq_some_iff.mp H
         obtain ⟨t464, A530, H⟩ := H
         replace H : ((bodkinlaw19_sameCommands.f k7 t461 t464).bind fun t467 => (if t467 = true then (bodkinlaw19_BindTable.l2 k7 a0 y438 x4_1 x5_34 x6_4 y438 (y438.length : Int) (wrap64 (x60_7 + 1)) x4_1 x6_4 ((Go.bits .and .u8 a0 1) != 0) ((Go.bits .and .u8 a0 2) != 0) ((Go.bits .and .u8 a0 4) != 0) x442005_41) else (some false))) = some r := H
         have A53 := aM A530
         clear A530
         replace H := Option.bind_eq_some_iff.mp H
         obtain ⟨t467, A540, H⟩ := H
         replace H : (if t467 = true then (bodkinlaw19_BindTable.l2 k7 a0 y438 x4_1 x5_34 x6_4 y438 (y438.length : Int) (wrap64 (x60_7 + 1)) x4_1 x6_4 ((Go.bits .and .u8 a0 1) != 0) ((Go.bits .and .u8 a0 2) != 0) ((Go.bits .and .u8 a0 4) != 0) x442005_41) else (some false)) = some r := H
         have A54 := aM A540
         clear A540
         by_cases c55 : t467 = true
         ·subst c55
          replace H : (bodkinlaw19_BindTable.l2 k7 a0 y438 x4_1 x5_34 x6_4 y438 (y438.length : Int) (wrap64 (x60_7 + 1)) x4_1 x6_4 ((Go.bits .and .u8 a0 1) != 0) ((Go.bits .and .u8 a0 2) != 0) ((Go.bits .and .u8 a0 4) != 0) x442005_41) = some r := by rw [if_pos rfl] at H; exact H
          have H' := aM H
          clear H
          have p442 : 0 ≤ (x60_7 : Int) := of_decide_eq_true (by first | (with_reducible assumption) | assumption)
          have q442 : x60_7 < (y438.length : Int) := of_decide_eq_true (by first | (with_reducible assumption) | assumption)
          obtain ⟨ad442, A442_0, c442_0, e442, hx442_0, hl442_0, hi442_0⟩ := at_L8 (Kd.N_reads' HO_58.out).2.2 x60_7 p442 q442
          cases e442
          obtain ⟨ce442, hce442, hMe442, hcc442⟩ := Kd.N_get HO_58.out [] x60_7 p442 (by first | exact q442 | exact of_decide_eq_true (by first | (with_reducible assumption) | assumption) | (have e_ := (Kd.N_reads' HO_58.out).1; omega))
          obtain ⟨ua442_0, uc442_0, rfl, ul442_0, ge442_0⟩ := Kd.FK_slice_open hMe442
          have hv442_0 := hcc442 0 _ rfl
          rw [Nat.add_zero, show ((Kd.slice 25 k25)).sz = 1 from rfl, Nat.mul_one] at hv442_0
          replace hv442_0 := Option.some.inj (hv442_0.symm.trans hx442_0)
          injection hv442_0 with hva_ hvn_ hvc_
          rw [hva_] at ge442_0
          rw [hvc_] at ul442_0
          have HL442_0 := aM (show Kd.V k25 25 _ w.heap.size _ _ (rd_L8 y438 x60_7) from Kd.V_mk ul442_0 ge442_0)
          clear hva_ hvn_ hvc_ ge442_0 ul442_0 hcc442 hce442
          have HR442_0 := aM hi442_0
          have HC442_0 := aM hl442_0
          clear hi442_0 hl442_0
          replace p442 := eq_true p442
          replace q442 := eq_true q442
          try go_wp2
          replace HO_3 := aM (Kd.N_drew HO_3.out)
          replace HO_58 := aM (Kd.N_drew HO_58.out)
          replace HL442_0 := aM (Kd.V_drew HL442_0.out)
          replace BK441 := aM (bkD BK441.1)
          replace HR442_0 := aM (Kd.C_drew HR442_0.out)
          replace HB := aM (bwD HB.1)
          refine start_ (n := 8) (S := fun w' => w'.cell? ⟨gb441, 0, none⟩ = some (.int .i64 x4_1) ∧ w'.cell? ⟨gb441, 1, none⟩ = some (.int .i32 x6_4) ∧ w'.cell? ⟨gb441, 2, none⟩ = some (.bool ((Go.bits .and .u8 a0 1) != 0)) ∧ w'.cell? ⟨gb441, 3, none⟩ = some (.bool ((Go.bits .and .u8 a0 2) != 0)) ∧ w'.cell? ⟨gb441, 4, none⟩ = some (.bool ((Go.bits .and .u8 a0 4) != 0)) ∧ w'.cell? ⟨gb441, 5, none⟩ = some (.string x442005_41)) (ds := []) #[false, false, false, false, false, false, false, false] (by kernel_rfl) rfl rfl ⟨(bkC BK441.1 0).trans rfl, (bkC BK441.1 1).trans rfl, (bkC BK441.1 2).trans rfl, (bkC BK441.1 3).trans rfl, (bkC BK441.1 4).trans rfl, (bkC BK441.1 5).trans rfl⟩ (fun hHeld => ?_); refine with_tabW bodkinlaw19_BindTable.tab19 bodkinlaw19_BindTable.bits19 (fun HT_ HW_ => ?_)
          generalize wr.drew = w56 at HO_3 HO_58 HL442_0 BK441 HR442_0 HB hHeld ⊢
          refine pure_ (i := 1) (N := some 65) (v := ?_) (a' := ?_) #[false, true, false, false, false, false, false, false] rfl rfl (any_of HT_.out (by kernel_rfl)) (fun _ _ _ h => h) (Or.inl ⟨by rfl, ?_⟩) ?_ ?_
          rotate_left
          ·intro w'
           go_simp
           with_reducible rfl
          rotate_left
          ·simp only [Act.put, List.setIfInBounds_toArray, List.set_cons_zero, List.set_cons_succ, i64_w, i32_w]
           rfl
          refine take_ (i := 3) (N := some 67) (v := ?_) (a' := ?_) #[false, true, false, true, false, false, false, false] rfl rfl (take_ofW HT_.out HW_.out (by kernel_rfl)) (fun _ _ _ h => h) (Or.inl ⟨by rfl, ?_⟩) hHeld ?_ ?_
          rotate_left
          ·rintro w' ⟨s0, s1, s2, s3, s4, s5⟩
           go_simp
           with_reducible rfl
          rotate_left
          ·simp only [Act.put, List.setIfInBounds_toArray, List.set_cons_zero, List.set_cons_succ, i64_w, i32_w]
           rfl
          refine one_ (i := 0) (N := some 64) #[true, true, false, true, false, false, false, false] rfl rfl (one_of HT_.out (by kernel_rfl)) (by decide) (fun K hK => ?_)
          refine Kd.R_lit_step k25 _ 25 ?hg (N := 64) ?hd (xs := ([] : List (S25))) (inner := []) (ok := fun _ => True) (okp := fun _ => True) ?hr ?hp (fun _ hk => hk) trivial (Below.refl _ _) (Nat.le_refl _) (by simp) ?_; (case hd => rfl); (case hg => rfl); (case hr => first | (go_simp; done) | (go_simp; rfl)); (case hp => exact (Reps.none _ _))
          intro v444 w57 ho58 hb hg_ hnew_
          clear hg_ hnew_
          (first | rw [← Ny443.1] at ho58 | (simp only [Int.reduceToNat] at ho58; rw [← Ny443.1] at ho58))
          replace HO_3 := aM (Kd.N_elder' (by (with_reducible repeat (first | apply Kd.N_alloc | apply Kd.N_drewN | apply Kd.N_drew)); exact HO_3.out) (Kd.R_base ho58) hb)
          replace HO_58 := aM (Kd.N_elder' (by (with_reducible repeat (first | apply Kd.N_alloc | apply Kd.N_drewN | apply Kd.N_drew)); exact HO_58.out) (Kd.R_base ho58) hb)
          replace HL442_0 := aM (Kd.V_elder' (by (with_reducible repeat (first | apply Kd.V_alloc | apply Kd.V_drewN | apply Kd.V_drew)); exact HL442_0.out) (Kd.R_base ho58) hb)
          have HO445 := aM (Kd.R_lower (Kd.R_newB ho58 (g := gb441) (o := .cells #[.int .i64 x4_1, .int .i32 x6_4, .bool ((Go.bits .and .u8 a0 1) != 0), .bool ((Go.bits .and .u8 a0 2) != 0), .bool ((Go.bits .and .u8 a0 4) != 0), .string x442005_41] 25 (0, 0)) (by apply_rules (transparency := .reducible) [BK441.1, bkN, bkD, bkA])) (bwZ (by apply_rules (transparency := .reducible) [HB.1, bwA, bwN, bwD, bwS, GE441.1])))
          replace BK441 := aM (bkB (g := gb441) (o := .cells #[.int .i64 x4_1, .int .i32 x6_4, .bool ((Go.bits .and .u8 a0 1) != 0), .bool ((Go.bits .and .u8 a0 2) != 0), .bool ((Go.bits .and .u8 a0 4) != 0), .string x442005_41] 25 (0, 0)) (by apply_rules (transparency := .reducible) [BK441.1, bkN, bkD, bkA]) hb)
          replace HR442_0 := aM (Kd.C_below (by repeat (first | (with_reducible exact HR442_0.out) | (with_reducible refine Kd.C_alloc ?_ _) | (with_reducible refine Kd.C_drewN ?_ _) | (with_reducible refine Kd.C_drew ?_) | exact HR442_0.out)) hb)
          replace HB := aM (bwP (by apply_rules (transparency := .reducible) [HB.1, bwA, bwN, bwD, bwS, GE441.1]) hb)
          clear hb ho58
          refine hK.out _ _ ⟨(bkC BK441.1 0).trans rfl, (bkC BK441.1 1).trans rfl, (bkC BK441.1 2).trans rfl, (bkC BK441.1 3).trans rfl, (bkC BK441.1 4).trans rfl, (bkC BK441.1 5).trans rfl⟩ (fun hHeld => ?_)
          clear hK K
          refine norm_ (a' := ?_) ?_ ?_
          rotate_left
          ·show Act.put _ (some 64) _ = _
           simp only [Act.put, List.setIfInBounds_toArray, List.set_cons_zero, List.set_cons_succ, i64_w, i32_w]
           rfl
          refine one_ (i := 2) (N := some 66) #[true, true, true, true, false, false, false, false] rfl rfl (one_of HT_.out (by kernel_rfl)) (by decide) (fun K hK => ?_)
          refine Kd.R_append_rows_step k25 (w0 := w) w.heap.size (by rfl) (.tmp 64) (.tmp 65) 27 25 (.agg #[(.int .i64 0), (.int .i32 0), (.bool false), (.bool false), (.bool false), (.string ⟨#[]⟩)]) 32 rfl Try.underlying27 info25 rfl (by decide) (by omega) v444 y443 (rd_L8 y438 x60_7) _ _ _ (fun k_ => k_ ≠ gb441) (fun _ => False) rfl rfl ?aO ?aR (fun _ _ h => h) (fun _ h => h.elim) ?aF ?aB ?aS ?aL ?_
          (case aR => repeat (first | exact (by repeat (first | (with_reducible exact HR442_0.out) | (with_reducible refine Kd.C_alloc ?_ _) | (with_reducible refine Kd.C_drewN ?_ _) | (with_reducible refine Kd.C_drew ?_) | exact HR442_0.out)) | (with_reducible refine Kd.C_alloc ?_ _) | (with_reducible refine Kd.C_drewN ?_ _) | (with_reducible refine Kd.C_drew ?_)))
          (case aB => exact (by apply_rules (transparency := .reducible) [HB.1, bwA, bwN, bwD, bwS, GE441.1]))
          (case aF => exact (fun k_ hk => Kd.freshB (g := gb441) (o := .cells #[.int .i64 x4_1, .int .i32 x6_4, .bool ((Go.bits .and .u8 a0 1) != 0), .bool ((Go.bits .and .u8 a0 2) != 0), .bool ((Go.bits .and .u8 a0 4) != 0), .string x442005_41] 25 (0, 0)) (by apply_rules (transparency := .reducible) [BK441.1, bkN, bkD, bkA]) k_ hk))
          (case aO => exact (by (with_reducible repeat first | apply Kd.R_alloc | apply Kd.R_drewN | apply Kd.R_drew); exact Kd.R_mono HO445.1 (fun _ hk => hk.2)))
          (case aS => exact (bwZ (by apply_rules (transparency := .reducible) [HB.1, bwA, bwN, bwD, bwS, GE441.1])))
          (case aL => have := LMc49.out; omega)
          intro v447 w59 ho hb hg hat
          rw [← Ny446.1] at ho
          have n0_ := aM (Kd.N_afterv (ok := (fun k_ => k_ ≠ gb441)) (by (with_reducible repeat (first | apply Kd.N_alloc | apply Kd.N_drewN | apply Kd.N_drew)); exact HO_3.out) hg hat)
          have n1_ := aM (Kd.N_afterv (ok := (fun k_ => k_ ≠ gb441)) (by (with_reducible repeat (first | apply Kd.N_alloc | apply Kd.N_drewN | apply Kd.N_drew)); exact HO_58.out) hg hat)
          have n2_ := aM (blk_grown (g := gb441) (o := .cells #[.int .i64 x4_1, .int .i32 x6_4, .bool ((Go.bits .and .u8 a0 1) != 0), .bool ((Go.bits .and .u8 a0 2) != 0), .bool ((Go.bits .and .u8 a0 4) != 0), .string x442005_41] 25 (0, 0)) (by apply_rules (transparency := .reducible) [BK441.1, bkN, bkD, bkA]) hg (Kd.R_away HO445.1 (fun _ hk => hk.2)))
          have n3_ := aM (Kd.V_afterv (ok := (fun k_ => some k_ ≠ (.slice (some ad442) y438.length co45 : Value).ownBlock ∧ k_ ≠ gb441)) (by (with_reducible repeat (first | apply Kd.V_alloc | apply Kd.V_drewN | apply Kd.V_drew)); exact Kd.V_mono HL442_0.out (fun _ hk => ⟨⟨hk.1.2, hk.1.1⟩, hk.2⟩)) hg hat)
          have n4_ := aM (hb)
          have n5_ := aM (ho)
          clear HO_3 HO_58 BK441 HL442_0 HB HO445
          have HO_3 := n0_
          have HO_58 := n1_
          have BK441 := n2_
          have HL442_0 := n3_
          have HB := n4_
          have HO448 := n5_
          clear n0_ n1_ n2_ n3_ n4_ n5_ ho hb hg hat
          refine hK.out _ _ ⟨(bkC BK441.1 0).trans rfl, (bkC BK441.1 1).trans rfl, (bkC BK441.1 2).trans rfl, (bkC BK441.1 3).trans rfl, (bkC BK441.1 4).trans rfl, (bkC BK441.1 5).trans rfl⟩ (fun hHeld => ?_)
          clear hK K
          refine norm_ (a' := ?_) ?_ ?_
          rotate_left
          ·show Act.put _ (some 66) _ = _
           simp only [Act.put, List.setIfInBounds_toArray, List.set_cons_zero, List.set_cons_succ, i64_w, i32_w]
           rfl
          refine one_ (i := 4) (N := some 68) #[true, true, true, true, true, false, false, false] rfl rfl (one_of HT_.out (by kernel_rfl)) (by decide) (fun K hK => ?_)
          refine goes_ Try.func15 (by kernel_rfl) rfl #[.int .i32 122, .bool false] (by rfl) rfl rfl (by (try simp only [List.map_toArray, List.map_cons, List.map_nil]); first | done | rfl | (simp only [List.length_drop, List.length_take]; rfl)) ?_
          with_reducible refine (bodkinlaw19_char.calls 122 false t449 t450 t451 t452 t453 t454 _ A50.1).mono ?_
          rintro e w60 ⟨rfl, hb⟩
          refine ⟨_, rfl, ?_⟩
          replace HO_3 := aM (Kd.N_below (by (with_reducible repeat (first | apply Kd.N_alloc | apply Kd.N_drewN | apply Kd.N_drew)); exact HO_3.out) hb)
          replace HO_58 := aM (Kd.N_below (by (with_reducible repeat (first | apply Kd.N_alloc | apply Kd.N_drewN | apply Kd.N_drew)); exact HO_58.out) hb)
          replace HL442_0 := aM (Kd.V_below (by (with_reducible repeat (first | apply Kd.V_alloc | apply Kd.V_drewN | apply Kd.V_drew)); exact HL442_0.out) hb)
          replace HO448 := aM (Kd.R_below (by (with_reducible repeat first | apply Kd.R_alloc | apply Kd.R_drewN | apply Kd.R_drew); exact HO448.1) hb)
          replace BK441 := aM (bkB (g := gb441) (o := .cells #[.int .i64 x4_1, .int .i32 x6_4, .bool ((Go.bits .and .u8 a0 1) != 0), .bool ((Go.bits .and .u8 a0 2) != 0), .bool ((Go.bits .and .u8 a0 4) != 0), .string x442005_41] 25 (0, 0)) (by apply_rules (transparency := .reducible) [BK441.1, bkN, bkD, bkA]) hb)
          replace HB := aM (bwP (by apply_rules (transparency := .reducible) [HB.1, bwA, bwN, bwD, bwS, GE441.1]) hb)
          (try clear hb)
          (try clear hb2)
          (try clear hk)
          (try clear hi)
          refine hK.out _ _ ⟨(bkC BK441.1 0).trans rfl, (bkC BK441.1 1).trans rfl, (bkC BK441.1 2).trans rfl, (bkC BK441.1 3).trans rfl, (bkC BK441.1 4).trans rfl, (bkC BK441.1 5).trans rfl⟩ (fun hHeld => ?_)
          clear hK K
          refine norm_ (a' := ?_) ?_ ?_
          rotate_left
          ·show Act.put _ (some 68) _ = _
           simp only [Act.put, List.setIfInBounds_toArray, List.set_cons_zero, List.set_cons_succ, i64_w, i32_w]
           rfl
          refine one_ (i := 5) (N := some 69) #[true, true, true, true, true, true, false, false] rfl rfl (one_of HT_.out (by kernel_rfl)) (by decide) (fun K hK => ?_)
          refine Kd.R_lit_step k25 _ 25 ?hg (N := 69) ?hd (xs := ([(⟨x4_1, x6_4, ((Go.bits .and .u8 a0 1) != 0), ((Go.bits .and .u8 a0 2) != 0), ((Go.bits .and .u8 a0 4) != 0), x442005_41⟩ : S25), (⟨t449, t450, t451, t452, t453, t454⟩ : S25)] : List (S25))) (inner := [.int .i64 x4_1, .int .i32 x6_4, .bool ((Go.bits .and .u8 a0 1) != 0), .bool ((Go.bits .and .u8 a0 2) != 0), .bool ((Go.bits .and .u8 a0 4) != 0), .string x442005_41, .int .i64 t449, .int .i32 t450, .bool t451, .bool t452, .bool t453, .string t454]) (ok := fun _ => True) (okp := fun _ => True) ?hr ?hp (fun _ hk => hk) trivial (Below.refl _ _) (Nat.le_refl _) (by simp) ?_; (case hd => rfl); (case hg => rfl); (case hr => first | (go_simp; done) | (go_simp; rfl)); (case hp => exact (Reps.c6 (show Kd.M k25 _ _ _ (⟨x4_1, x6_4, ((Go.bits .and .u8 a0 1) != 0), ((Go.bits .and .u8 a0 2) != 0), ((Go.bits .and .u8 a0 4) != 0), x442005_41⟩ : S25) [.int .i64 x4_1, .int .i32 x6_4, .bool ((Go.bits .and .u8 a0 1) != 0), .bool ((Go.bits .and .u8 a0 2) != 0), .bool ((Go.bits .and .u8 a0 4) != 0), .string x442005_41] from (k25_mkM _ _ _ (⟨x4_1, x6_4, ((Go.bits .and .u8 a0 1) != 0), ((Go.bits .and .u8 a0 2) != 0), ((Go.bits .and .u8 a0 4) != 0), x442005_41⟩ : S25) )) (Reps.c6 (show Kd.M k25 _ _ _ (⟨t449, t450, t451, t452, t453, t454⟩ : S25) [.int .i64 t449, .int .i32 t450, .bool t451, .bool t452, .bool t453, .string t454] from (k25_mkM _ _ _ (⟨t449, t450, t451, t452, t453, t454⟩ : S25) )) (Reps.none _ _))))
          intro v456 w61 ho62 hb hg_ hnew_
          clear hg_ hnew_
          (first | rw [← Ny455.1] at ho62 | (simp only [Int.reduceToNat] at ho62; rw [← Ny455.1] at ho62))
          replace HO_3 := aM (Kd.N_elder' (by (with_reducible repeat (first | apply Kd.N_alloc | apply Kd.N_drewN | apply Kd.N_drew)); exact HO_3.out) (Kd.R_base ho62) hb)
          replace HO_58 := aM (Kd.N_elder' (by (with_reducible repeat (first | apply Kd.N_alloc | apply Kd.N_drewN | apply Kd.N_drew)); exact HO_58.out) (Kd.R_base ho62) hb)
          replace HL442_0 := aM (Kd.V_elder' (by (with_reducible repeat (first | apply Kd.V_alloc | apply Kd.V_drewN | apply Kd.V_drew)); exact HL442_0.out) (Kd.R_base ho62) hb)
          have HO457 := aM (Kd.R_lower (Kd.R_newB (Kd.R_new' ho62 (Kd.R_lt (by (with_reducible repeat first | apply Kd.R_alloc | apply Kd.R_drewN | apply Kd.R_drew); exact HO448.1))) (g := gb441) (o := .cells #[.int .i64 x4_1, .int .i32 x6_4, .bool ((Go.bits .and .u8 a0 1) != 0), .bool ((Go.bits .and .u8 a0 2) != 0), .bool ((Go.bits .and .u8 a0 4) != 0), .string x442005_41] 25 (0, 0)) (by apply_rules (transparency := .reducible) [BK441.1, bkN, bkD, bkA])) (bwZ (by apply_rules (transparency := .reducible) [HB.1, bwA, bwN, bwD, bwS, GE441.1])))
          replace HO448 := aM (Kd.R_elder' (by (with_reducible repeat first | apply Kd.R_alloc | apply Kd.R_drewN | apply Kd.R_drew); exact HO448.1) (Kd.R_base ho62) hb)
          replace BK441 := aM (bkB (g := gb441) (o := .cells #[.int .i64 x4_1, .int .i32 x6_4, .bool ((Go.bits .and .u8 a0 1) != 0), .bool ((Go.bits .and .u8 a0 2) != 0), .bool ((Go.bits .and .u8 a0 4) != 0), .string x442005_41] 25 (0, 0)) (by apply_rules (transparency := .reducible) [BK441.1, bkN, bkD, bkA]) hb)
          replace HB := aM (bwP (by apply_rules (transparency := .reducible) [HB.1, bwA, bwN, bwD, bwS, GE441.1]) hb)
          clear hb ho62
          obtain ⟨Ao64, co64, eo64⟩ := Kd.R_slice HO457.1
          (first | subst eo64 | (injection eo64 with f1_ f2_ f3_; have f4_ := f1_.symm; have f5_ := f3_.symm; clear f1_ f2_ f3_; subst f4_; subst f5_))
          refine hK.out _ _ ⟨(bkC BK441.1 0).trans rfl, (bkC BK441.1 1).trans rfl, (bkC BK441.1 2).trans rfl, (bkC BK441.1 3).trans rfl, (bkC BK441.1 4).trans rfl, (bkC BK441.1 5).trans rfl⟩ (fun hHeld => ?_)
          clear hK K
          refine norm_ (a' := ?_) ?_ ?_
          rotate_left
          ·show Act.put _ (some 69) _ = _
           simp only [Act.put, List.setIfInBounds_toArray, List.set_cons_zero, List.set_cons_succ, i64_w, i32_w]
           rfl
          refine one_ (i := 6) (N := some 70) #[true, true, true, true, true, true, true, false] rfl rfl (one_of HT_.out (by kernel_rfl)) (by decide) (fun K hK => ?_)
          refine Kd.R_append_rows_step k25 (w0 := w) w.heap.size (by rfl) (.tmp 66) (.tmp 69) 27 25 (.agg #[(.int .i64 0), (.int .i32 0), (.bool false), (.bool false), (.bool false), (.string ⟨#[]⟩)]) 32 rfl Try.underlying27 info25 rfl (by decide) (by omega) v447 y446 y455 _ _ _ (fun k_ => some k_ ≠ (.slice Ao64 y455.length co64 : Value).ownBlock ∧ k_ ≠ gb441) (fun _ => False) rfl rfl ?aO ?aR (fun _ _ h => h) (fun _ h => h.elim) ?aF ?aB ?aS ?aL ?_
          (case aR => repeat (first | exact (Kd.R_reads' HO457.1).2.2 | (with_reducible refine Kd.C_alloc ?_ _) | (with_reducible refine Kd.C_drewN ?_ _) | (with_reducible refine Kd.C_drew ?_)))
          (case aB => exact (by apply_rules (transparency := .reducible) [HB.1, bwA, bwN, bwD, bwS, GE441.1]))
          (case aF => exact (fun k_ hk => ⟨Kd.fresh' (Kd.R_lt (by (with_reducible repeat first | apply Kd.R_alloc | apply Kd.R_drewN | apply Kd.R_drew); exact HO457.1)) k_ hk, Kd.freshB (g := gb441) (o := .cells #[.int .i64 x4_1, .int .i32 x6_4, .bool ((Go.bits .and .u8 a0 1) != 0), .bool ((Go.bits .and .u8 a0 2) != 0), .bool ((Go.bits .and .u8 a0 4) != 0), .string x442005_41] 25 (0, 0)) (by apply_rules (transparency := .reducible) [BK441.1, bkN, bkD, bkA]) k_ hk⟩))
          (case aO => exact (by (with_reducible repeat first | apply Kd.R_alloc | apply Kd.R_drewN | apply Kd.R_drew); exact Kd.R_mono HO448.1 (fun _ hk => ⟨hk.2, hk.1⟩)))
          (case aS => exact (bwZ (by apply_rules (transparency := .reducible) [HB.1, bwA, bwN, bwD, bwS, GE441.1])))
          (case aL => have := LMc51.out; omega)
          intro v459 w63 ho hb hg hat
          rw [← Ny458.1] at ho
          have n0_ := aM (Kd.N_afterv (ok := (fun k_ => some k_ ≠ (.slice Ao64 y455.length co64 : Value).ownBlock ∧ k_ ≠ gb441)) (by (with_reducible repeat (first | apply Kd.N_alloc | apply Kd.N_drewN | apply Kd.N_drew)); exact Kd.N_mono HO_3.out (fun _ hk => ⟨⟨hk.2, hk.1.1⟩, hk.1.2⟩)) hg hat)
          have n1_ := aM (Kd.N_afterv (ok := (fun k_ => some k_ ≠ (.slice Ao64 y455.length co64 : Value).ownBlock ∧ k_ ≠ gb441)) (by (with_reducible repeat (first | apply Kd.N_alloc | apply Kd.N_drewN | apply Kd.N_drew)); exact Kd.N_mono HO_58.out (fun _ hk => ⟨⟨hk.2, hk.1.1⟩, hk.1.2⟩)) hg hat)
          have n2_ := aM (blk_grown (g := gb441) (o := .cells #[.int .i64 x4_1, .int .i32 x6_4, .bool ((Go.bits .and .u8 a0 1) != 0), .bool ((Go.bits .and .u8 a0 2) != 0), .bool ((Go.bits .and .u8 a0 4) != 0), .string x442005_41] 25 (0, 0)) (by apply_rules (transparency := .reducible) [BK441.1, bkN, bkD, bkA]) hg (Kd.R_away HO448.1 (fun _ hk => hk.1)))
          have n3_ := aM (Kd.V_afterv (ok := (fun k_ => some k_ ≠ (.slice (some ad442) y438.length co45 : Value).ownBlock ∧ some k_ ≠ (.slice Ao64 y455.length co64 : Value).ownBlock ∧ k_ ≠ gb441)) (by (with_reducible repeat (first | apply Kd.V_alloc | apply Kd.V_drewN | apply Kd.V_drew)); exact Kd.V_mono HL442_0.out (fun _ hk => ⟨⟨hk.1.1.1, ⟨hk.2, hk.1.1.2⟩⟩, hk.1.2⟩)) hg hat)
          have n4_ := aM (Kd.R_after (ok := (fun k_ => k_ ≠ gb441)) (by (with_reducible repeat first | apply Kd.R_alloc | apply Kd.R_drewN | apply Kd.R_drew); exact Kd.R_mono HO457.1 (fun _ hk => ⟨hk.2, hk.1.2⟩)) hg hat)
          have n5_ := aM (hb)
          have n6_ := aM (ho)
          clear HO_3 HO_58 BK441 HL442_0 HO457 HB HO448
          have HO_3 := n0_
          have HO_58 := n1_
          have BK441 := n2_
          have HL442_0 := n3_
          have HO457 := n4_
          have HB := n5_
          have HO460 := n6_
          clear n0_ n1_ n2_ n3_ n4_ n5_ n6_ ho hb hg hat
          refine hK.out _ _ ⟨(bkC BK441.1 0).trans rfl, (bkC BK441.1 1).trans rfl, (bkC BK441.1 2).trans rfl, (bkC BK441.1 3).trans rfl, (bkC BK441.1 4).trans rfl, (bkC BK441.1 5).trans rfl⟩ (fun hHeld => ?_)
          clear hK K
          refine norm_ (a' := ?_) ?_ ?_
          rotate_left
          ·show Act.put _ (some 70) _ = _
           simp only [Act.put, List.setIfInBounds_toArray, List.set_cons_zero, List.set_cons_succ, i64_w, i32_w]
           rfl
          refine pure_ (i := 7) (N := some 10) (v := ?_) (a' := ?_) #[true, true, true, true, true, true, true, true] rfl rfl (any_of HT_.out (by kernel_rfl)) (fun _ _ _ h => h) (Or.inl ⟨by rfl, ?_⟩) ?_ ?_
          rotate_left
          ·intro w'
           go_simp
           with_reducible rfl
          rotate_left
          ·simp only [Act.put, List.setIfInBounds_toArray, List.set_cons_zero, List.set_cons_succ, i64_w, i32_w]
           rfl
          refine done_ (done_of HT_.out (by kernel_rfl)) ?_
          obtain ⟨Ao65, co65, eo65⟩ := Kd.R_slice HO460.1
          subst eo65
          try go_wp2_with (first | ((with_reducible refine gate_callee (f := 17) rfl ?_); refine goesL_ (some 72) rfl rfl Try.func17 (by kernel_rfl) rfl #[.slice Ao65 y458.length co65] rfl (by (try simp only [List.map_toArray, List.map_cons, List.map_nil]); first | done | rfl | (simp only [List.length_drop, List.length_take]; rfl)) ?_; (with_reducible refine (bind_Commands.calls k7 _ _ y458 t461 _ ?side1 ?side2 A52.1).mono ?_); (case side1 => repeat (first | exact (Kd.R_reads' HO460.1).2.2 | (with_reducible refine Kd.C_alloc ?_ _) | (with_reducible refine Kd.C_drewN ?_ _) | (with_reducible refine Kd.C_drew ?_))); (case side2 => exact (Kd.R_reads' HO460.1).2.1); rintro e w66 ⟨v462, rfl, ho0, hb⟩; refine ⟨_, rfl, ?_⟩; replace HO_3 := aM (Kd.N_elder' (by (with_reducible repeat (first | apply Kd.N_alloc | apply Kd.N_drewN | apply Kd.N_drew)); exact HO_3.out) (Kd.R_base ho0) hb); replace HO_58 := aM (Kd.N_elder' (by (with_reducible repeat (first | apply Kd.N_alloc | apply Kd.N_drewN | apply Kd.N_drew)); exact HO_58.out) (Kd.R_base ho0) hb); replace HL442_0 := aM (Kd.V_elder' (by (with_reducible repeat (first | apply Kd.V_alloc | apply Kd.V_drewN | apply Kd.V_drew)); exact HL442_0.out) (Kd.R_base ho0) hb); replace HO457 := aM (Kd.R_below (by (with_reducible repeat first | apply Kd.R_alloc | apply Kd.R_drewN | apply Kd.R_drew); exact HO457.1) hb); replace HO460 := aM (Kd.R_below (by (with_reducible repeat first | apply Kd.R_alloc | apply Kd.R_drewN | apply Kd.R_drew); exact HO460.1) hb); have HO463 := aM (Kd.R_lower ho0 (bwZ (by apply_rules (transparency := .reducible) [HB.1, bwA, bwN, bwD, bwS, GE441.1]))); replace BK441 := aM (bkB (g := gb441) (o := .cells #[.int .i64 x4_1, .int .i32 x6_4, .bool ((Go.bits .and .u8 a0 1) != 0), .bool ((Go.bits .and .u8 a0 2) != 0), .bool ((Go.bits .and .u8 a0 4) != 0), .string x442005_41] 25 (0, 0)) (by apply_rules (transparency := .reducible) [BK441.1, bkN, bkD, bkA]) hb); replace HB := aM (bwP (by apply_rules (transparency := .reducible) [HB.1, bwA, bwN, bwD, bwS, GE441.1]) hb); (try clear hb); (try clear hb2); (try clear hk); (try clear hi); (try clear ho0)) | ((with_reducible refine gate_callee (f := 18) rfl ?_); refine goesL_ (some 74) rfl rfl Try.func18 (by kernel_rfl) rfl #[.slice Ao65 y458.length co65] rfl (by (try simp only [List.map_toArray, List.map_cons, List.map_nil]); first | done | rfl | (simp only [List.length_drop, List.length_take]; rfl)) ?_; (with_reducible refine (bodkinref19_Commands.calls k7 _ _ y458 t464 _ ?side1 ?side2 A53.1).mono ?_); (case side1 => repeat (first | exact (Kd.R_reads' HO460.1).2.2 | (with_reducible refine Kd.C_alloc ?_ _) | (with_reducible refine Kd.C_drewN ?_ _) | (with_reducible refine Kd.C_drew ?_))); (case side2 => exact (Kd.R_reads' HO460.1).2.1); rintro e w67 ⟨v465, rfl, ho0, hb⟩; refine ⟨_, rfl, ?_⟩; replace HO_3 := aM (Kd.N_elder' (by (with_reducible repeat (first | apply Kd.N_alloc | apply Kd.N_drewN | apply Kd.N_drew)); exact HO_3.out) (Kd.R_base ho0) hb); replace HO_58 := aM (Kd.N_elder' (by (with_reducible repeat (first | apply Kd.N_alloc | apply Kd.N_drewN | apply Kd.N_drew)); exact HO_58.out) (Kd.R_base ho0) hb); replace HL442_0 := aM (Kd.V_elder' (by (with_reducible repeat (first | apply Kd.V_alloc | apply Kd.V_drewN | apply Kd.V_drew)); exact HL442_0.out) (Kd.R_base ho0) hb); replace HO457 := aM (Kd.R_below (by (with_reducible repeat first | apply Kd.R_alloc | apply Kd.R_drewN | apply Kd.R_drew); exact HO457.1) hb); replace HO460 := aM (Kd.R_below (by (with_reducible repeat first | apply Kd.R_alloc | apply Kd.R_drewN | apply Kd.R_drew); exact HO460.1) hb); have HO466 := aM (Kd.R_lower (Kd.R_new' ho0 (Kd.R_lt (by (with_reducible repeat first | apply Kd.R_alloc | apply Kd.R_drewN | apply Kd.R_drew); exact HO463.1))) (bwZ (by apply_rules (transparency := .reducible) [HB.1, bwA, bwN, bwD, bwS, GE441.1]))); replace HO463 := aM (Kd.R_elder' (by (with_reducible repeat first | apply Kd.R_alloc | apply Kd.R_drewN | apply Kd.R_drew); exact HO463.1) (Kd.R_base ho0) hb); replace BK441 := aM (bkB (g := gb441) (o := .cells #[.int .i64 x4_1, .int .i32 x6_4, .bool ((Go.bits .and .u8 a0 1) != 0), .bool ((Go.bits .and .u8 a0 2) != 0), .bool ((Go.bits .and .u8 a0 4) != 0), .string x442005_41] 25 (0, 0)) (by apply_rules (transparency := .reducible) [BK441.1, bkN, bkD, bkA]) hb); replace HB := aM (bwP (by apply_rules (transparency := .reducible) [HB.1, bwA, bwN, bwD, bwS, GE441.1]) hb); (try clear hb); (try clear hb2); (try clear hk); (try clear hi); (try clear ho0); obtain ⟨Ao68, co68, eo68⟩ := Kd.R_slice HO463.1; subst eo68; obtain ⟨Ao69, co69, eo69⟩ := Kd.R_slice HO466.1; subst eo69) | ((with_reducible refine gate_callee (f := 16) rfl ?_); refine goesL_ (some 75) rfl rfl Try.func16 (by kernel_rfl) rfl #[.slice Ao68 t461.length co68, .slice Ao69 t464.length co69] rfl (by (try simp only [List.map_toArray, List.map_cons, List.map_nil]); first | done | rfl | (simp only [List.length_drop, List.length_take]; rfl)) ?_; (with_reducible refine (bodkinlaw19_sameCommands.calls k7 _ _ t461 _ _ t464 true _ ?side1 ?side2 ?side3 ?side4 A54.1).mono ?_); (case side1 => repeat (first | exact (Kd.R_reads' HO463.1).2.2 | (with_reducible refine Kd.C_alloc ?_ _) | (with_reducible refine Kd.C_drewN ?_ _) | (with_reducible refine Kd.C_drew ?_))); (case side2 => exact (Kd.R_reads' HO463.1).2.1); (case side3 => repeat (first | exact (Kd.R_reads' HO466.1).2.2 | (with_reducible refine Kd.C_alloc ?_ _) | (with_reducible refine Kd.C_drewN ?_ _) | (with_reducible refine Kd.C_drew ?_))); (case side4 => exact (Kd.R_reads' HO466.1).2.1); rintro e w' ⟨rfl, ⟨nd, rfl⟩⟩; refine ⟨_, rfl, ?_⟩))
          go_roundg k7
          case measure => have := HK1.out; have := HJ32.1; have := HJ34.1; have := HK4.out; have := HJ37.1; have := HJ41.1; have := HK7.out; omega
          case rel => exact ⟨(wrap64 (x60_7 + 1)), (by first | rfl | (simp; done) | (simp [*]; done)), H', ⟨by have := HK1.out; have := HJ32.1; have := HJ34.1; have := HK4.out; have := HJ37.1; have := HJ41.1; have := HK7.out; omega⟩, ⟨by (with_reducible repeat (first | apply Kd.N_alloc | apply Kd.N_drewN | apply Kd.N_drew)); exact Kd.N_mono HO_3.out (fun _ hk => hk.1.1.1.2)⟩, ⟨by (with_reducible repeat (first | apply Kd.N_alloc | apply Kd.N_drewN | apply Kd.N_drew)); exact Kd.N_mono HO_58.out (fun _ hk => hk.1.1.1.2)⟩, ⟨by apply_rules (transparency := .reducible) [BK441.1, bkN, bkD, bkA]⟩, ⟨by apply_rules (transparency := .reducible) [HB.1, bwA, bwN, bwD, bwS, GE441.1]⟩⟩
         replace c55 := Bool.eq_false_iff.mpr c55
         subst c55
         replace H : (some false) = some r := by rw [if_neg (show ¬ (false = true) by decide)] at H; exact H
         obtain rfl := Option.some.inj H
         have p442 : 0 ≤ (x60_7 : Int) := of_decide_eq_true (by first | (with_reducible assumption) | assumption)
         have q442 : x60_7 < (y438.length : Int) := of_decide_eq_true (by first | (with_reducible assumption) | assumption)
         obtain ⟨ad442, A442_0, c442_0, e442, hx442_0, hl442_0, hi442_0⟩ := at_L8 (Kd.N_reads' HO_58.out).2.2 x60_7 p442 q442
         cases e442
         obtain ⟨ce442, hce442, hMe442, hcc442⟩ := Kd.N_get HO_58.out [] x60_7 p442 (by first | exact q442 | exact of_decide_eq_true (by first | (with_reducible assumption) | assumption) | (have e_ := (Kd.N_reads' HO_58.out).1; omega))
         obtain ⟨ua442_0, uc442_0, rfl, ul442_0, ge442_0⟩ := Kd.FK_slice_open hMe442
         have hv442_0 := hcc442 0 _ rfl
         rw [Nat.add_zero, show ((Kd.slice 25 k25)).sz = 1 from rfl, Nat.mul_one] at hv442_0
         replace hv442_0 := Option.some.inj (hv442_0.symm.trans hx442_0)
         injection hv442_0 with hva_ hvn_ hvc_
         rw [hva_] at ge442_0
         rw [hvc_] at ul442_0
         have HL442_0 := aM (show Kd.V k25 25 _ w.heap.size _ _ (rd_L8 y438 x60_7) from Kd.V_mk ul442_0 ge442_0)
         clear hva_ hvn_ hvc_ ge442_0 ul442_0 hcc442 hce442
         have HR442_0 := aM hi442_0
         have HC442_0 := aM hl442_0
         clear hi442_0 hl442_0
         replace p442 := eq_true p442
         replace q442 := eq_true q442
         try go_wp2
         replace HO_3 := aM (Kd.N_drew HO_3.out)
         replace HO_58 := aM (Kd.N_drew HO_58.out)
         replace HL442_0 := aM (Kd.V_drew HL442_0.out)
         replace BK441 := aM (bkD BK441.1)
         replace HR442_0 := aM (Kd.C_drew HR442_0.out)
         replace HB := aM (bwD HB.1)
         refine start_ (n := 8) (S := fun w' => w'.cell? ⟨gb441, 0, none⟩ = some (.int .i64 x4_1) ∧ w'.cell? ⟨gb441, 1, none⟩ = some (.int .i32 x6_4) ∧ w'.cell? ⟨gb441, 2, none⟩ = some (.bool ((Go.bits .and .u8 a0 1) != 0)) ∧ w'.cell? ⟨gb441, 3, none⟩ = some (.bool ((Go.bits .and .u8 a0 2) != 0)) ∧ w'.cell? ⟨gb441, 4, none⟩ = some (.bool ((Go.bits .and .u8 a0 4) != 0)) ∧ w'.cell? ⟨gb441, 5, none⟩ = some (.string x442005_41)) (ds := []) #[false, false, false, false, false, false, false, false] (by kernel_rfl) rfl rfl ⟨(bkC BK441.1 0).trans rfl, (bkC BK441.1 1).trans rfl, (bkC BK441.1 2).trans rfl, (bkC BK441.1 3).trans rfl, (bkC BK441.1 4).trans rfl, (bkC BK441.1 5).trans rfl⟩ (fun hHeld => ?_); refine with_tabW bodkinlaw19_BindTable.tab19 bodkinlaw19_BindTable.bits19 (fun HT_ HW_ => ?_)
         generalize wr.drew = w70 at HO_3 HO_58 HL442_0 BK441 HR442_0 HB hHeld ⊢
         refine pure_ (i := 1) (N := some 65) (v := ?_) (a' := ?_) #[false, true, false, false, false, false, false, false] rfl rfl (any_of HT_.out (by kernel_rfl)) (fun _ _ _ h => h) (Or.inl ⟨by rfl, ?_⟩) ?_ ?_
         rotate_left
         ·intro w'
          go_simp
          with_reducible rfl
         rotate_left
         ·simp only [Act.put, List.setIfInBounds_toArray, List.set_cons_zero, List.set_cons_succ, i64_w, i32_w]
          rfl
         refine take_ (i := 3) (N := some 67) (v := ?_) (a' := ?_) #[false, true, false, true, false, false, false, false] rfl rfl (take_ofW HT_.out HW_.out (by kernel_rfl)) (fun _ _ _ h => h) (Or.inl ⟨by rfl, ?_⟩) hHeld ?_ ?_
         rotate_left
         ·rintro w' ⟨s0, s1, s2, s3, s4, s5⟩
          go_simp
          with_reducible rfl
         rotate_left
         ·simp only [Act.put, List.setIfInBounds_toArray, List.set_cons_zero, List.set_cons_succ, i64_w, i32_w]
          rfl
         refine one_ (i := 0) (N := some 64) #[true, true, false, true, false, false, false, false] rfl rfl (one_of HT_.out (by kernel_rfl)) (by decide) (fun K hK => ?_)
         refine Kd.R_lit_step k25 _ 25 ?hg (N := 64) ?hd (xs := ([] : List (S25))) (inner := []) (ok := fun _ => True) (okp := fun _ => True) ?hr ?hp (fun _ hk => hk) trivial (Below.refl _ _) (Nat.le_refl _) (by simp) ?_; (case hd => rfl); (case hg => rfl); (case hr => first | (go_simp; done) | (go_simp; rfl)); (case hp => exact (Reps.none _ _))
         intro v444 w71 ho72 hb hg_ hnew_
         clear hg_ hnew_
         (first | rw [← Ny443.1] at ho72 | (simp only [Int.reduceToNat] at ho72; rw [← Ny443.1] at ho72))
         replace HO_3 := aM (Kd.N_elder' (by (with_reducible repeat (first | apply Kd.N_alloc | apply Kd.N_drewN | apply Kd.N_drew)); exact HO_3.out) (Kd.R_base ho72) hb)
         replace HO_58 := aM (Kd.N_elder' (by (with_reducible repeat (first | apply Kd.N_alloc | apply Kd.N_drewN | apply Kd.N_drew)); exact HO_58.out) (Kd.R_base ho72) hb)
         replace HL442_0 := aM (Kd.V_elder' (by (with_reducible repeat (first | apply Kd.V_alloc | apply Kd.V_drewN | apply Kd.V_drew)); exact HL442_0.out) (Kd.R_base ho72) hb)
         have HO445 := aM (Kd.R_lower (Kd.R_newB ho72 (g := gb441) (o := .cells #[.int .i64 x4_1, .int .i32 x6_4, .bool ((Go.bits .and .u8 a0 1) != 0), .bool ((Go.bits .and .u8 a0 2) != 0), .bool ((Go.bits .and .u8 a0 4) != 0), .string x442005_41] 25 (0, 0)) (by apply_rules (transparency := .reducible) [BK441.1, bkN, bkD, bkA])) (bwZ (by apply_rules (transparency := .reducible) [HB.1, bwA, bwN, bwD, bwS, GE441.1])))
         replace BK441 := aM (bkB (g := gb441) (o := .cells #[.int .i64 x4_1, .int .i32 x6_4, .bool ((Go.bits .and .u8 a0 1) != 0), .bool ((Go.bits .and .u8 a0 2) != 0), .bool ((Go.bits .and .u8 a0 4) != 0), .string x442005_41] 25 (0, 0)) (by apply_rules (transparency := .reducible) [BK441.1, bkN, bkD, bkA]) hb)
         replace HR442_0 := aM (Kd.C_below (by repeat (first | (with_reducible exact HR442_0.out) | (with_reducible refine Kd.C_alloc ?_ _) | (with_reducible refine Kd.C_drewN ?_ _) | (with_reducible refine Kd.C_drew ?_) | exact HR442_0.out)) hb)
         replace HB := aM (bwP (by apply_rules (transparency := .reducible) [HB.1, bwA, bwN, bwD, bwS, GE441.1]) hb)
         clear hb ho72
         refine hK.out _ _ ⟨(bkC BK441.1 0).trans rfl, (bkC BK441.1 1).trans rfl, (bkC BK441.1 2).trans rfl, (bkC BK441.1 3).trans rfl, (bkC BK441.1 4).trans rfl, (bkC BK441.1 5).trans rfl⟩ (fun hHeld => ?_)
         clear hK K
         refine norm_ (a' := ?_) ?_ ?_
         rotate_left
         ·show Act.put _ (some 64) _ = _
          simp only [Act.put, List.setIfInBounds_toArray, List.set_cons_zero, List.set_cons_succ, i64_w, i32_w]
          rfl
         refine one_ (i := 2) (N := some 66) #[true, true, true, true, false, false, false, false] rfl rfl (one_of HT_.out (by kernel_rfl)) (by decide) (fun K hK => ?_)
         refine Kd.R_append_rows_step k25 (w0 := w) w.heap.size (by rfl) (.tmp 64) (.tmp 65) 27 25 (.agg #[(.int .i64 0), (.int .i32 0), (.bool false), (.bool false), (.bool false), (.string ⟨#[]⟩)]) 32 rfl Try.underlying27 info25 rfl (by decide) (by omega) v444 y443 (rd_L8 y438 x60_7) _ _ _ (fun k_ => k_ ≠ gb441) (fun _ => False) rfl rfl ?aO ?aR (fun _ _ h => h) (fun _ h => h.elim) ?aF ?aB ?aS ?aL ?_
         (case aR => repeat (first | exact (by repeat (first | (with_reducible exact HR442_0.out) | (with_reducible refine Kd.C_alloc ?_ _) | (with_reducible refine Kd.C_drewN ?_ _) | (with_reducible refine Kd.C_drew ?_) | exact HR442_0.out)) | (with_reducible refine Kd.C_alloc ?_ _) | (with_reducible refine Kd.C_drewN ?_ _) | (with_reducible refine Kd.C_drew ?_)))
         (case aB => exact (by apply_rules (transparency := .reducible) [HB.1, bwA, bwN, bwD, bwS, GE441.1]))
         (case aF => exact (fun k_ hk => Kd.freshB (g := gb441) (o := .cells #[.int .i64 x4_1, .int .i32 x6_4, .bool ((Go.bits .and .u8 a0 1) != 0), .bool ((Go.bits .and .u8 a0 2) != 0), .bool ((Go.bits .and .u8 a0 4) != 0), .string x442005_41] 25 (0, 0)) (by apply_rules (transparency := .reducible) [BK441.1, bkN, bkD, bkA]) k_ hk))
         (case aO => exact (by (with_reducible repeat first | apply Kd.R_alloc | apply Kd.R_drewN | apply Kd.R_drew); exact Kd.R_mono HO445.1 (fun _ hk => hk.2)))
         (case aS => exact (bwZ (by apply_rules (transparency := .reducible) [HB.1, bwA, bwN, bwD, bwS, GE441.1])))
         (case aL => have := LMc49.out; omega)
         intro v447 w73 ho hb hg hat
         rw [← Ny446.1] at ho
         have n0_ := aM (Kd.N_afterv (ok := (fun k_ => k_ ≠ gb441)) (by (with_reducible repeat (first | apply Kd.N_alloc | apply Kd.N_drewN | apply Kd.N_drew)); exact HO_3.out) hg hat)
         have n1_ := aM (Kd.N_afterv (ok := (fun k_ => k_ ≠ gb441)) (by (with_reducible repeat (first | apply Kd.N_alloc | apply Kd.N_drewN | apply Kd.N_drew)); exact HO_58.out) hg hat)
         have n2_ := aM (blk_grown (g := gb441) (o := .cells #[.int .i64 x4_1, .int .i32 x6_4, .bool ((Go.bits .and .u8 a0 1) != 0), .bool ((Go.bits .and .u8 a0 2) != 0), .bool ((Go.bits .and .u8 a0 4) != 0), .string x442005_41] 25 (0, 0)) (by apply_rules (transparency := .reducible) [BK441.1, bkN, bkD, bkA]) hg (Kd.R_away HO445.1 (fun _ hk => hk.2)))
         have n3_ := aM (Kd.V_afterv (ok := (fun k_ => some k_ ≠ (.slice (some ad442) y438.length co45 : Value).ownBlock ∧ k_ ≠ gb441)) (by (with_reducible repeat (first | apply Kd.V_alloc | apply Kd.V_drewN | apply Kd.V_drew)); exact Kd.V_mono HL442_0.out (fun _ hk => ⟨⟨hk.1.2, hk.1.1⟩, hk.2⟩)) hg hat)
         have n4_ := aM (hb)
         have n5_ := aM (ho)
         clear HO_3 HO_58 BK441 HL442_0 HB HO445
         have HO_3 := n0_
         have HO_58 := n1_
         have BK441 := n2_
         have HL442_0 := n3_
         have HB := n4_
         have HO448 := n5_
         clear n0_ n1_ n2_ n3_ n4_ n5_ ho hb hg hat
         refine hK.out _ _ ⟨(bkC BK441.1 0).trans rfl, (bkC BK441.1 1).trans rfl, (bkC BK441.1 2).trans rfl, (bkC BK441.1 3).trans rfl, (bkC BK441.1 4).trans rfl, (bkC BK441.1 5).trans rfl⟩ (fun hHeld => ?_)
         clear hK K
         refine norm_ (a' := ?_) ?_ ?_
         rotate_left
         ·show Act.put _ (some 66) _ = _
          simp only [Act.put, List.setIfInBounds_toArray, List.set_cons_zero, List.set_cons_succ, i64_w, i32_w]
          rfl
         refine one_ (i := 4) (N := some 68) #[true, true, true, true, true, false, false, false] rfl rfl (one_of HT_.out (by kernel_rfl)) (by decide) (fun K hK => ?_)
         refine goes_ Try.func15 (by kernel_rfl) rfl #[.int .i32 122, .bool false] (by rfl) rfl rfl (by (try simp only [List.map_toArray, List.map_cons, List.map_nil]); first | done | rfl | (simp only [List.length_drop, List.length_take]; rfl)) ?_
         with_reducible refine (bodkinlaw19_char.calls 122 false t449 t450 t451 t452 t453 t454 _ A50.1).mono ?_
         rintro e w74 ⟨rfl, hb⟩
         refine ⟨_, rfl, ?_⟩
         replace HO_3 := aM (Kd.N_below (by (with_reducible repeat (first | apply Kd.N_alloc | apply Kd.N_drewN | apply Kd.N_drew)); exact HO_3.out) hb)
         replace HO_58 := aM (Kd.N_below (by (with_reducible repeat (first | apply Kd.N_alloc | apply Kd.N_drewN | apply Kd.N_drew)); exact HO_58.out) hb)
         replace HL442_0 := aM (Kd.V_below (by (with_reducible repeat (first | apply Kd.V_alloc | apply Kd.V_drewN | apply Kd.V_drew)); exact HL442_0.out) hb)
         replace HO448 := aM (Kd.R_below (by (with_reducible repeat first | apply Kd.R_alloc | apply Kd.R_drewN | apply Kd.R_drew); exact HO448.1) hb)
         replace BK441 := aM (bkB (g := gb441) (o := .cells #[.int .i64 x4_1, .int .i32 x6_4, .bool ((Go.bits .and .u8 a0 1) != 0), .bool ((Go.bits .and .u8 a0 2) != 0), .bool ((Go.bits .and .u8 a0 4) != 0), .string x442005_41] 25 (0, 0)) (by apply_rules (transparency := .reducible) [BK441.1, bkN, bkD, bkA]) hb)
         replace HB := aM (bwP (by apply_rules (transparency := .reducible) [HB.1, bwA, bwN, bwD, bwS, GE441.1]) hb)
         (try clear hb)
         (try clear hb2)
         (try clear hk)
         (try clear hi)
         refine hK.out _ _ ⟨(bkC BK441.1 0).trans rfl, (bkC BK441.1 1).trans rfl, (bkC BK441.1 2).trans rfl, (bkC BK441.1 3).trans rfl, (bkC BK441.1 4).trans rfl, (bkC BK441.1 5).trans rfl⟩ (fun hHeld => ?_)
         clear hK K
         refine norm_ (a' := ?_) ?_ ?_
         rotate_left
         ·show Act.put _ (some 68) _ = _
          simp only [Act.put, List.setIfInBounds_toArray, List.set_cons_zero, List.set_cons_succ, i64_w, i32_w]
          rfl
         refine one_ (i := 5) (N := some 69) #[true, true, true, true, true, true, false, false] rfl rfl (one_of HT_.out (by kernel_rfl)) (by decide) (fun K hK => ?_)
         refine Kd.R_lit_step k25 _ 25 ?hg (N := 69) ?hd (xs := ([(⟨x4_1, x6_4, ((Go.bits .and .u8 a0 1) != 0), ((Go.bits .and .u8 a0 2) != 0), ((Go.bits .and .u8 a0 4) != 0), x442005_41⟩ : S25), (⟨t449, t450, t451, t452, t453, t454⟩ : S25)] : List (S25))) (inner := [.int .i64 x4_1, .int .i32 x6_4, .bool ((Go.bits .and .u8 a0 1) != 0), .bool ((Go.bits .and .u8 a0 2) != 0), .bool ((Go.bits .and .u8 a0 4) != 0), .string x442005_41, .int .i64 t449, .int .i32 t450, .bool t451, .bool t452, .bool t453, .string t454]) (ok := fun _ => True) (okp := fun _ => True) ?hr ?hp (fun _ hk => hk) trivial (Below.refl _ _) (Nat.le_refl _) (by simp) ?_; (case hd => rfl); (case hg => rfl); (case hr => first | (go_simp; done) | (go_simp; rfl)); (case hp => exact (Reps.c6 (show Kd.M k25 _ _ _ (⟨x4_1, x6_4, ((Go.bits .and .u8 a0 1) != 0), ((Go.bits .and .u8 a0 2) != 0), ((Go.bits .and .u8 a0 4) != 0), x442005_41⟩ : S25) [.int .i64 x4_1, .int .i32 x6_4, .bool ((Go.bits .and .u8 a0 1) != 0), .bool ((Go.bits .and .u8 a0 2) != 0), .bool ((Go.bits .and .u8 a0 4) != 0), .string x442005_41] from (k25_mkM _ _ _ (⟨x4_1, x6_4, ((Go.bits .and .u8 a0 1) != 0), ((Go.bits .and .u8 a0 2) != 0), ((Go.bits .and .u8 a0 4) != 0), x442005_41⟩ : S25) )) (Reps.c6 (show Kd.M k25 _ _ _ (⟨t449, t450, t451, t452, t453, t454⟩ : S25) [.int .i64 t449, .int .i32 t450, .bool t451, .bool t452, .bool t453, .string t454] from (k25_mkM _ _ _ (⟨t449, t450, t451, t452, t453, t454⟩ : S25) )) (Reps.none _ _))))
         intro v456 w75 ho76 hb hg_ hnew_
         clear hg_ hnew_
         (first | rw [← Ny455.1] at ho76 | (simp only [Int.reduceToNat] at ho76; rw [← Ny455.1] at ho76))
         replace HO_3 := aM (Kd.N_elder' (by (with_reducible repeat (first | apply Kd.N_alloc | apply Kd.N_drewN | apply Kd.N_drew)); exact HO_3.out) (Kd.R_base ho76) hb)
         replace HO_58 := aM (Kd.N_elder' (by (with_reducible repeat (first | apply Kd.N_alloc | apply Kd.N_drewN | apply Kd.N_drew)); exact HO_58.out) (Kd.R_base ho76) hb)
         replace HL442_0 := aM (Kd.V_elder' (by (with_reducible repeat (first | apply Kd.V_alloc | apply Kd.V_drewN | apply Kd.V_drew)); exact HL442_0.out) (Kd.R_base ho76) hb)
         have HO457 := aM (Kd.R_lower (Kd.R_newB (Kd.R_new' ho76 (Kd.R_lt (by (with_reducible repeat first | apply Kd.R_alloc | apply Kd.R_drewN | apply Kd.R_drew); exact HO448.1))) (g := gb441) (o := .cells #[.int .i64 x4_1, .int .i32 x6_4, .bool ((Go.bits .and .u8 a0 1) != 0), .bool ((Go.bits .and .u8 a0 2) != 0), .bool ((Go.bits .and .u8 a0 4) != 0), .string x442005_41] 25 (0, 0)) (by apply_rules (transparency := .reducible) [BK441.1, bkN, bkD, bkA])) (bwZ (by apply_rules (transparency := .reducible) [HB.1, bwA, bwN, bwD, bwS, GE441.1])))
         replace HO448 := aM (Kd.R_elder' (by (with_reducible repeat first | apply Kd.R_alloc | apply Kd.R_drewN | apply Kd.R_drew); exact HO448.1) (Kd.R_base ho76) hb)
         replace BK441 := aM (bkB (g := gb441) (o := .cells #[.int .i64 x4_1, .int .i32 x6_4, .bool ((Go.bits .and .u8 a0 1) != 0), .bool ((Go.bits .and .u8 a0 2) != 0), .bool ((Go.bits .and .u8 a0 4) != 0), .string x442005_41] 25 (0, 0)) (by apply_rules (transparency := .reducible) [BK441.1, bkN, bkD, bkA]) hb)
         replace HB := aM (bwP (by apply_rules (transparency := .reducible) [HB.1, bwA, bwN, bwD, bwS, GE441.1]) hb)
         clear hb ho76
         obtain ⟨Ao78, co78, eo78⟩ := Kd.R_slice HO457.1
         (first | subst eo78 | (injection eo78 with f1_ f2_ f3_; have f4_ := f1_.symm; have f5_ := f3_.symm; clear f1_ f2_ f3_; subst f4_; subst f5_))
         refine hK.out _ _ ⟨(bkC BK441.1 0).trans rfl, (bkC BK441.1 1).trans rfl, (bkC BK441.1 2).trans rfl, (bkC BK441.1 3).trans rfl, (bkC BK441.1 4).trans rfl, (bkC BK441.1 5).trans rfl⟩ (fun hHeld => ?_)
         clear hK K
         refine norm_ (a' := ?_) ?_ ?_
         rotate_left
         ·show Act.put _ (some 69) _ = _
          simp only [Act.put, List.setIfInBounds_toArray, List.set_cons_zero, List.set_cons_succ, i64_w, i32_w]
          rfl
         refine one_ (i := 6) (N := some 70) #[true, true, true, true, true, true, true, false] rfl rfl (one_of HT_.out (by kernel_rfl)) (by decide) (fun K hK => ?_)
         refine Kd.R_append_rows_step k25 (w0 := w) w.heap.size (by rfl) (.tmp 66) (.tmp 69) 27 25 (.agg #[(.int .i64 0), (.int .i32 0), (.bool false), (.bool false), (.bool false), (.string ⟨#[]⟩)]) 32 rfl Try.underlying27 info25 rfl (by decide) (by omega) v447 y446 y455 _ _ _ (fun k_ => some k_ ≠ (.slice Ao78 y455.length co78 : Value).ownBlock ∧ k_ ≠ gb441) (fun _ => False) rfl rfl ?aO ?aR (fun _ _ h => h) (fun _ h => h.elim) ?aF ?aB ?aS ?aL ?_
         (case aR => repeat (first | exact (Kd.R_reads' HO457.1).2.2 | (with_reducible refine Kd.C_alloc ?_ _) | (with_reducible refine Kd.C_drewN ?_ _) | (with_reducible refine Kd.C_drew ?_)))
         (case aB => exact (by apply_rules (transparency := .reducible) [HB.1, bwA, bwN, bwD, bwS, GE441.1]))
         (case aF => exact (fun k_ hk => ⟨Kd.fresh' (Kd.R_lt (by (with_reducible repeat first | apply Kd.R_alloc | apply Kd.R_drewN | apply Kd.R_drew); exact HO457.1)) k_ hk, Kd.freshB (g := gb441) (o := .cells #[.int .i64 x4_1, .int .i32 x6_4, .bool ((Go.bits .and .u8 a0 1) != 0), .bool ((Go.bits .and .u8 a0 2) != 0), .bool ((Go.bits .and .u8 a0 4) != 0), .string x442005_41] 25 (0, 0)) (by apply_rules (transparency := .reducible) [BK441.1, bkN, bkD, bkA]) k_ hk⟩))
         (case aO => exact (by (with_reducible repeat first | apply Kd.R_alloc | apply Kd.R_drewN | apply Kd.R_drew); exact Kd.R_mono HO448.1 (fun _ hk => ⟨hk.2, hk.1⟩)))
         (case aS => exact (bwZ (by apply_rules (transparency := .reducible) [HB.1, bwA, bwN, bwD, bwS, GE441.1])))
         (case aL => have := LMc51.out; omega)
         intro v459 w77 ho hb hg hat
         rw [← Ny458.1] at ho
         have n0_ := aM (Kd.N_afterv (ok := (fun k_ => some k_ ≠ (.slice Ao78 y455.length co78 : Value).ownBlock ∧ k_ ≠ gb441)) (by (with_reducible repeat (first | apply Kd.N_alloc | apply Kd.N_drewN | apply Kd.N_drew)); exact Kd.N_mono HO_3.out (fun _ hk => ⟨⟨hk.2, hk.1.1⟩, hk.1.2⟩)) hg hat)
         have n1_ := aM (Kd.N_afterv (ok := (fun k_ => some k_ ≠ (.slice Ao78 y455.length co78 : Value).ownBlock ∧ k_ ≠ gb441)) (by (with_reducible repeat (first | apply Kd.N_alloc | apply Kd.N_drewN | apply Kd.N_drew)); exact Kd.N_mono HO_58.out (fun _ hk => ⟨⟨hk.2, hk.1.1⟩, hk.1.2⟩)) hg hat)
         have n2_ := aM (blk_grown (g := gb441) (o := .cells #[.int .i64 x4_1, .int .i32 x6_4, .bool ((Go.bits .and .u8 a0 1) != 0), .bool ((Go.bits .and .u8 a0 2) != 0), .bool ((Go.bits .and .u8 a0 4) != 0), .string x442005_41] 25 (0, 0)) (by apply_rules (transparency := .reducible) [BK441.1, bkN, bkD, bkA]) hg (Kd.R_away HO448.1 (fun _ hk => hk.1)))
         have n3_ := aM (Kd.V_afterv (ok := (fun k_ => some k_ ≠ (.slice (some ad442) y438.length co45 : Value).ownBlock ∧ some k_ ≠ (.slice Ao78 y455.length co78 : Value).ownBlock ∧ k_ ≠ gb441)) (by (with_reducible repeat (first | apply Kd.V_alloc | apply Kd.V_drewN | apply Kd.V_drew)); exact Kd.V_mono HL442_0.out (fun _ hk => ⟨⟨hk.1.1.1, ⟨hk.2, hk.1.1.2⟩⟩, hk.1.2⟩)) hg hat)
         have n4_ := aM (Kd.R_after (ok := (fun k_ => k_ ≠ gb441)) (by (with_reducible repeat first | apply Kd.R_alloc | apply Kd.R_drewN | apply Kd.R_drew); exact Kd.R_mono HO457.1 (fun _ hk => ⟨hk.2, hk.1.2⟩)) hg hat)
         have n5_ := aM (hb)
         have n6_ := aM (ho)
         clear HO_3 HO_58 BK441 HL442_0 HO457 HB HO448
         have HO_3 := n0_
         have HO_58 := n1_
         have BK441 := n2_
         have HL442_0 := n3_
         have HO457 := n4_
         have HB := n5_
         have HO460 := n6_
         clear n0_ n1_ n2_ n3_ n4_ n5_ n6_ ho hb hg hat
         refine hK.out _ _ ⟨(bkC BK441.1 0).trans rfl, (bkC BK441.1 1).trans rfl, (bkC BK441.1 2).trans rfl, (bkC BK441.1 3).trans rfl, (bkC BK441.1 4).trans rfl, (bkC BK441.1 5).trans rfl⟩ (fun hHeld => ?_)
         clear hK K
         refine norm_ (a' := ?_) ?_ ?_
         rotate_left
         ·show Act.put _ (some 70) _ = _
          simp only [Act.put, List.setIfInBounds_toArray, List.set_cons_zero, List.set_cons_succ, i64_w, i32_w]
          rfl
         refine pure_ (i := 7) (N := some 10) (v := ?_) (a' := ?_) #[true, true, true, true, true, true, true, true] rfl rfl (any_of HT_.out (by kernel_rfl)) (fun _ _ _ h => h) (Or.inl ⟨by rfl, ?_⟩) ?_ ?_
         rotate_left
         ·intro w'
          go_simp
          with_reducible rfl
         rotate_left
         ·simp only [Act.put, List.setIfInBounds_toArray, List.set_cons_zero, List.set_cons_succ, i64_w, i32_w]
          rfl
         refine done_ (done_of HT_.out (by kernel_rfl)) ?_
         obtain ⟨Ao79, co79, eo79⟩ := Kd.R_slice HO460.1
         subst eo79
         try go_wp2_with (first | ((with_reducible refine gate_callee (f := 17) rfl ?_); refine goesL_ (some 72) rfl rfl Try.func17 (by kernel_rfl) rfl #[.slice Ao79 y458.length co79] rfl (by (try simp only [List.map_toArray, List.map_cons, List.map_nil]); first | done | rfl | (simp only [List.length_drop, List.length_take]; rfl)) ?_; (with_reducible refine (bind_Commands.calls k7 _ _ y458 t461 _ ?side1 ?side2 A52.1).mono ?_); (case side1 => repeat (first | exact (Kd.R_reads' HO460.1).2.2 | (with_reducible refine Kd.C_alloc ?_ _) | (with_reducible refine Kd.C_drewN ?_ _) | (with_reducible refine Kd.C_drew ?_))); (case side2 => exact (Kd.R_reads' HO460.1).2.1); rintro e w80 ⟨v462, rfl, ho0, hb⟩; refine ⟨_, rfl, ?_⟩; replace HO_3 := aM (Kd.N_elder' (by (with_reducible repeat (first | apply Kd.N_alloc | apply Kd.N_drewN | apply Kd.N_drew)); exact HO_3.out) (Kd.R_base ho0) hb); replace HO_58 := aM (Kd.N_elder' (by (with_reducible repeat (first | apply Kd.N_alloc | apply Kd.N_drewN | apply Kd.N_drew)); exact HO_58.out) (Kd.R_base ho0) hb); replace HL442_0 := aM (Kd.V_elder' (by (with_reducible repeat (first | apply Kd.V_alloc | apply Kd.V_drewN | apply Kd.V_drew)); exact HL442_0.out) (Kd.R_base ho0) hb); replace HO457 := aM (Kd.R_below (by (with_reducible repeat first | apply Kd.R_alloc | apply Kd.R_drewN | apply Kd.R_drew); exact HO457.1) hb); replace HO460 := aM (Kd.R_below (by (with_reducible repeat first | apply Kd.R_alloc | apply Kd.R_drewN | apply Kd.R_drew); exact HO460.1) hb); have HO463 := aM (Kd.R_lower ho0 (bwZ (by apply_rules (transparency := .reducible) [HB.1, bwA, bwN, bwD, bwS, GE441.1]))); replace BK441 := aM (bkB (g := gb441) (o := .cells #[.int .i64 x4_1, .int .i32 x6_4, .bool ((Go.bits .and .u8 a0 1) != 0), .bool ((Go.bits .and .u8 a0 2) != 0), .bool ((Go.bits .and .u8 a0 4) != 0), .string x442005_41] 25 (0, 0)) (by apply_rules (transparency := .reducible) [BK441.1, bkN, bkD, bkA]) hb); replace HB := aM (bwP (by apply_rules (transparency := .reducible) [HB.1, bwA, bwN, bwD, bwS, GE441.1]) hb); (try clear hb); (try clear hb2); (try clear hk); (try clear hi); (try clear ho0)) | ((with_reducible refine gate_callee (f := 18) rfl ?_); refine goesL_ (some 74) rfl rfl Try.func18 (by kernel_rfl) rfl #[.slice Ao79 y458.length co79] rfl (by (try simp only [List.map_toArray, List.map_cons, List.map_nil]); first | done | rfl | (simp only [List.length_drop, List.length_take]; rfl)) ?_; (with_reducible refine (bodkinref19_Commands.calls k7 _ _ y458 t464 _ ?side1 ?side2 A53.1).mono ?_); (case side1 => repeat (first | exact (Kd.R_reads' HO460.1).2.2 | (with_reducible refine Kd.C_alloc ?_ _) | (with_reducible refine Kd.C_drewN ?_ _) | (with_reducible refine Kd.C_drew ?_))); (case side2 => exact (Kd.R_reads' HO460.1).2.1); rintro e w81 ⟨v465, rfl, ho0, hb⟩; refine ⟨_, rfl, ?_⟩; replace HO_3 := aM (Kd.N_elder' (by (with_reducible repeat (first | apply Kd.N_alloc | apply Kd.N_drewN | apply Kd.N_drew)); exact HO_3.out) (Kd.R_base ho0) hb); replace HO_58 := aM (Kd.N_elder' (by (with_reducible repeat (first | apply Kd.N_alloc | apply Kd.N_drewN | apply Kd.N_drew)); exact HO_58.out) (Kd.R_base ho0) hb); replace HL442_0 := aM (Kd.V_elder' (by (with_reducible repeat (first | apply Kd.V_alloc | apply Kd.V_drewN | apply Kd.V_drew)); exact HL442_0.out) (Kd.R_base ho0) hb); replace HO457 := aM (Kd.R_below (by (with_reducible repeat first | apply Kd.R_alloc | apply Kd.R_drewN | apply Kd.R_drew); exact HO457.1) hb); replace HO460 := aM (Kd.R_below (by (with_reducible repeat first | apply Kd.R_alloc | apply Kd.R_drewN | apply Kd.R_drew); exact HO460.1) hb); have HO466 := aM (Kd.R_lower (Kd.R_new' ho0 (Kd.R_lt (by (with_reducible repeat first | apply Kd.R_alloc | apply Kd.R_drewN | apply Kd.R_drew); exact HO463.1))) (bwZ (by apply_rules (transparency := .reducible) [HB.1, bwA, bwN, bwD, bwS, GE441.1]))); replace HO463 := aM (Kd.R_elder' (by (with_reducible repeat first | apply Kd.R_alloc | apply Kd.R_drewN | apply Kd.R_drew); exact HO463.1) (Kd.R_base ho0) hb); replace BK441 := aM (bkB (g := gb441) (o := .cells #[.int .i64 x4_1, .int .i32 x6_4, .bool ((Go.bits .and .u8 a0 1) != 0), .bool ((Go.bits .and .u8 a0 2) != 0), .bool ((Go.bits .and .u8 a0 4) != 0), .string x442005_41] 25 (0, 0)) (by apply_rules (transparency := .reducible) [BK441.1, bkN, bkD, bkA]) hb); replace HB := aM (bwP (by apply_rules (transparency := .reducible) [HB.1, bwA, bwN, bwD, bwS, GE441.1]) hb); (try clear hb); (try clear hb2); (try clear hk); (try clear hi); (try clear ho0); obtain ⟨Ao82, co82, eo82⟩ := Kd.R_slice HO463.1; subst eo82; obtain ⟨Ao83, co83, eo83⟩ := Kd.R_slice HO466.1; subst eo83) | ((with_reducible refine gate_callee (f := 16) rfl ?_); refine goesL_ (some 75) rfl rfl Try.func16 (by kernel_rfl) rfl #[.slice Ao82 t461.length co82, .slice Ao83 t464.length co83] rfl (by (try simp only [List.map_toArray, List.map_cons, List.map_nil]); first | done | rfl | (simp only [List.length_drop, List.length_take]; rfl)) ?_; (with_reducible refine (bodkinlaw19_sameCommands.calls k7 _ _ t461 _ _ t464 false _ ?side1 ?side2 ?side3 ?side4 A54.1).mono ?_); (case side1 => repeat (first | exact (Kd.R_reads' HO463.1).2.2 | (with_reducible refine Kd.C_alloc ?_ _) | (with_reducible refine Kd.C_drewN ?_ _) | (with_reducible refine Kd.C_drew ?_))); (case side2 => exact (Kd.R_reads' HO463.1).2.1); (case side3 => repeat (first | exact (Kd.R_reads' HO466.1).2.2 | (with_reducible refine Kd.C_alloc ?_ _) | (with_reducible refine Kd.C_drewN ?_ _) | (with_reducible refine Kd.C_drew ?_))); (case side4 => exact (Kd.R_reads' HO466.1).2.1); rintro e w' ⟨rfl, ⟨nd, rfl⟩⟩; refine ⟨_, rfl, ?_⟩))
         go_ret
         exact ⟨by first | rfl | (simp [errW_none, errW_some] <;> rfl) | (simp [*, errW_none, errW_some] <;> rfl), by apply_rules (transparency := .reducible) [HB.1, bwA, bwN, bwD, bwS, GE441.1]⟩
        rw [if_neg c51] at H
        exact absurd H (by simp)
       rw [if_neg c49] at H
       exact absurd H (by simp)
      rw [if_neg c48] at H
      exact absurd H (by simp)
     rw [if_neg c47] at H
     exact absurd H (by simp)
    rw [if_neg c46] at H
    have c46b0 : decide (x60_7 < (y438.length : Int)) = false := decide_eq_false c46
    clear c46
    have H' := aM H
    clear H
    go_wp2
    go_roundg k7
    case measure => have := HK1.out; have := HJ32.1; have := HJ34.1; have := HK4.out; have := HJ37.1; have := HJ41.1; have := HK7.out; omega
    case rel => exact ⟨(wrap32 (x6_4 + 1)), (by first | rfl | (simp; done) | (simp [*]; done)), H', ⟨by have := HK1.out; have := HJ32.1; have := HJ34.1; have := HK4.out; have := HJ37.1; have := HJ41.1; have := HK7.out; omega⟩, ⟨by (with_reducible repeat (first | apply Kd.N_alloc | apply Kd.N_drewN | apply Kd.N_drew)); exact Kd.N_mono HO_3.out (fun _ hk => trivial)⟩, ⟨by apply_rules (transparency := .reducible) [HB.1, bwA, bwN, bwD, bwS, GE441.1]⟩⟩
   rw [if_neg c37] at H
   have c37b0 : decide (x6_4 ≤ x5_34) = false := decide_eq_false c37
   clear c37
   have H' := aM H
   clear H
   go_wp2
   go_roundg k4
   case measure => have := HK1.out; have := HJ32.1; have := HJ34.1; have := HK4.out; omega
   case rel => exact ⟨(wrap64 (x4_1 + 1)), (by first | rfl | (simp; done) | (simp [*]; done)), H', ⟨by have := HK1.out; have := HJ32.1; have := HJ34.1; have := HK4.out; omega⟩, ⟨by (with_reducible repeat (first | apply Kd.N_alloc | apply Kd.N_drewN | apply Kd.N_drew)); exact HO_3.out⟩, ⟨by apply_rules (transparency := .reducible) [HB.1, bwA, bwN, bwD]⟩⟩
  rw [if_neg c32] at H
  have c32b0 : decide (x4_1 ≤ 19) = false := decide_eq_false c32
  clear c32
  obtain rfl := Option.some.inj H
  go_wp2
  go_ret
  exact ⟨by first | rfl | (simp [errW_none, errW_some] <;> rfl) | (simp [*, errW_none, errW_some] <;> rfl), by apply_rules (transparency := .reducible) [HB.1, bwA, bwN, bwD]⟩
 replace c3 := Bool.eq_false_iff.mpr c3
 subst c3
 replace H : (some false) = some r := by rw [if_neg (show ¬ (false = true) by decide)] at H; exact H
 obtain rfl := Option.some.inj H
 go_enter Try.func7, Try.ntmps7
 go_wp2_with (first | ((with_reducible refine gate_callee (f := 13) rfl ?_); refine goesL_ (some 11) rfl rfl Try.func13 (by kernel_rfl) rfl #[] rfl (by (try simp only [List.map_toArray, List.map_cons, List.map_nil]); first | done | rfl | (simp only [List.length_drop, List.length_take]; rfl)) ?_; (with_reducible refine (bodkinlaw19_binds.calls k  false _ A2.1).mono ?_); rintro e w84 ⟨rfl, hb⟩; refine ⟨_, rfl, ?_⟩; replace HB := aM (bwP (by apply_rules (transparency := .reducible) [HB.1, bwA, bwN, bwD]) hb); (try clear hb); (try clear hb2); (try clear hk); (try clear hi)))
 go_ret
 exact ⟨by first | rfl | (simp [errW_none, errW_some] <;> rfl) | (simp [*, errW_none, errW_some] <;> rfl), by apply_rules (transparency := .reducible) [HB.1, bwA, bwN, bwD]⟩

/-- THE ONE PURE STATEMENT of bodkinlaw19_BindTable: yours. -/
def bodkinlaw19_BindTable.Pure : Prop := ∀ (a0 : Int), (Lit.int .u8 a0).wf = true → ∃ k, bodkinlaw19_BindTable.f k a0 = some true
theorem bodkinlaw19_BindTable.walk (P : bodkinlaw19_BindTable.Pure) (a0 : Int) (w : World) (w0 : (Lit.int .u8 a0).wf = true) :
    Calls Try.prog 7 #[.int .u8 a0] w fun e w' => e = .returned (.bool true) ∧ Below w.heap.size w w' := by
 obtain ⟨k, h⟩ := P a0 w0
 refine (bodkinlaw19_BindTable.calls k a0 true w h).mono ?_
 rintro e w' ⟨rfl, hd⟩
 exact ⟨rfl, hd⟩

end Go.Proofs.Ytgkaiagoogjibaa.PBind
