-- written by pp.py of this session's wip: the kit's print, turned in a few places, over this claim's program
import Derived.Test.YtgkaiagoogjibaaPBindx0
import Derived.Test.YtgkaiagoogjibaaPBindx1
import Derived.Test.YtgkaiagoogjibaaPBindx2
import Derived.Test.YtgkaiagoogjibaaPBindx9
import Derived.Test.YtgkaiagoogjibaaPBindx18
namespace Go.Proofs.Ytgkaiagoogjibaa.PBind
open Go.RowKit Go.Proofs.YtgkaiagoogjibaaW.PrintWords Go.Proofs.YtgkaiagoogjibaaW.PrintLast Go.Proofs.YtgkaiagoogjibaaW.PrintMore
open Go.Proofs.YtgkaiagoogjibaaW.PrintWords renaming blk_drewN → bkN, blk_drew → bkD, blk_alloc → bkA, below_alloc → bwA, pw_below_drewN → bwN, below_drew1 → bwD, below_size → bwZ, below_step → bwP, blk_below → bkB, blk_put → bkU, blk_far → bkR, blk_lt → bkL
open Go.Proofs.YtgkaiagoogjibaaW.PrintWords.Aside0 renaming mk → aM
attribute [local go_sem] max2_int min2_int max_two min_two max_three min_three max_four min_four   -- for this text's walks alone
set_option linter.unusedVariables false
set_option linter.unusedSimpArgs false

attribute [local go_sem high] eqA36
/-! ### bodkinlaw19_BindCounts: function 10 -/
mutual
def bodkinlaw19_BindCounts.j0 : Nat → List Int → List Bool → Bool → Int → Int → Bool → Bool → Bool → ByteArray → Int → Int → ByteArray → Int → Option (Bool)
  | 0, _, _, _, _, _, _, _, _, _, _, _, _, _ => none
  | k + 1, x0, x1, x39, x578000, x578001, x578002, x578003, x578004, x578005, x585000, x585001, x585002, x585003 => if x39 = true then (some true) else ((bind_New.f).bind fun bt585 => (bodkinlaw19_BindCounts.l0 k x1 0 x0 (x0.length : Int) 0 x578000 x578001 x578002 x578003 x578004 x578005 x585000 x585001 x585002 x585003 bt585.1 bt585.2.1 bt585.2.2))
def bodkinlaw19_BindCounts.l0 : Nat → List Bool → Int → List Int → Int → Int → Int → Int → Bool → Bool → Bool → ByteArray → Int → Int → ByteArray → Int → Int → Bool → Int → Option (Bool)
  | 0, _, _, _, _, _, _, _, _, _, _, _, _, _, _, _, _, _, _ => none
  | k + 1, x1, x10, x41, x42, x43, x578000, x578001, x578002, x578003, x578004, x578005, x585000, x585001, x585002, x585003, x589000, x589001, x589002 => if x43 < x42 then (if 0 ≤ x43 then (if x43 < (x41.length : Int) then (if x43 = 0 then (bodkinlaw19_BindCounts.j2 k x1 x10 (rd x41 x43) true x41 x42 x43 x578000 x578001 x578002 x578003 x578004 x578005 x585000 x585001 x585002 x585003 x589000 x589001 x589002) else (if x43 < (x1.length : Int) then (bodkinlaw19_BindCounts.j2 k x1 x10 (rd x41 x43) (rdOf false x1 x43) x41 x42 x43 x578000 x578001 x578002 x578003 x578004 x578005 x585000 x585001 x585002 x585003 x589000 x589001 x589002) else (bodkinlaw19_BindCounts.j2 k x1 x10 (rd x41 x43) false x41 x42 x43 x578000 x578001 x578002 x578003 x578004 x578005 x585000 x585001 x585002 x585003 x589000 x589001 x589002))) else (none)) else (none)) else ((bind_Binder_Count.f x589000 x589001 x589002).bind fun bt610 => (if bt610.1 = (mx x10 1) then (bodkinlaw19_BindCounts.j3 k (mx x10 1) (!bt610.2.1) x578000 x578001 x578002 x578003 x578004 x578005 x585000 x585001 x585002 x585003 bt610.2.2.1 bt610.2.2.2.1 bt610.2.2.2.2) else (bodkinlaw19_BindCounts.j3 k (mx x10 1) true x578000 x578001 x578002 x578003 x578004 x578005 x585000 x585001 x585002 x585003 bt610.2.2.1 bt610.2.2.2.1 bt610.2.2.2.2)))
def bodkinlaw19_BindCounts.j2 : Nat → List Bool → Int → Int → Bool → List Int → Int → Int → Int → Int → Bool → Bool → Bool → ByteArray → Int → Int → ByteArray → Int → Int → Bool → Int → Option (Bool)
  | 0, _, _, _, _, _, _, _, _, _, _, _, _, _, _, _, _, _, _, _, _ => none
  | k + 1, x1, x10, x12, x13, x41, x42, x43, x578000, x578001, x578002, x578003, x578004, x578005, x585000, x585001, x585002, x585003, x589000, x589001, x589002 => (bodkinlaw19_char.f (wrap32 (48 + (wrap32 (Int.tmod x12 10)))) x13).bind fun bt591 => ((bind_Binder_Key.f k x589000 x589001 x589002 bt591.1 bt591.2.1 bt591.2.2.1 bt591.2.2.2.1 bt591.2.2.2.2.1 bt591.2.2.2.2.2).bind fun bt597 => (if bt597.2.2.2.2.1 = true then (some false) else (if (eqb36 bt597.1 0 bt597.2.1 0 bt597.2.2.1 (⟨#[]⟩ : ByteArray) bt597.2.2.2.1 0) = true then ((bind_Binder_Prefix.f bt597.2.2.2.2.2.1 bt597.2.2.2.2.2.2.1 bt597.2.2.2.2.2.2.2).bind fun bt606 => (if bt606.1.toList = ([] : List UInt8) then (bodkinlaw19_BindCounts.l0 k x1 (mn (wrap64 ((wrap64 (x10 * 10)) + (wrap64 (Int.tmod x12 10)))) 1000) x41 x42 (wrap64 (x43 + 1)) x578000 x578001 x578002 x578003 x578004 x578005 x585000 x585001 x585002 x585003 bt606.2.1 bt606.2.2.1 bt606.2.2.2) else (some false))) else (some false))))
def bodkinlaw19_BindCounts.j3 : Nat → Int → Bool → Int → Int → Bool → Bool → Bool → ByteArray → Int → Int → ByteArray → Int → Int → Bool → Int → Option (Bool)
  | 0, _, _, _, _, _, _, _, _, _, _, _, _, _, _, _ => none
  | k + 1, x10, x105, x578000, x578001, x578002, x578003, x578004, x578005, x585000, x585001, x585002, x585003, x589000, x589001, x589002 => if x105 = true then (some false) else (if x578000 = 1 then (if x578002 = true then (bodkinlaw19_BindCounts.j4 k x10 false x578000 x578001 x578002 x578003 x578004 x578005 x585000 x585001 x585002 x585003 x589000 x589001 x589002) else (if x578001 ≥ 48 then (bodkinlaw19_BindCounts.j4 k x10 (decide (x578001 ≤ 57)) x578000 x578001 x578002 x578003 x578004 x578005 x585000 x585001 x585002 x585003 x589000 x589001 x589002) else (bodkinlaw19_BindCounts.j4 k x10 false x578000 x578001 x578002 x578003 x578004 x578005 x585000 x585001 x585002 x585003 x589000 x589001 x589002))) else (bodkinlaw19_BindCounts.j4 k x10 false x578000 x578001 x578002 x578003 x578004 x578005 x585000 x585001 x585002 x585003 x589000 x589001 x589002))
def bodkinlaw19_BindCounts.j4 : Nat → Int → Bool → Int → Int → Bool → Bool → Bool → ByteArray → Int → Int → ByteArray → Int → Int → Bool → Int → Option (Bool)
  | 0, _, _, _, _, _, _, _, _, _, _, _, _, _, _, _ => none
  | k + 1, x10, x123, x578000, x578001, x578002, x578003, x578004, x578005, x585000, x585001, x585002, x585003, x589000, x589001, x589002 => if x123 = true then (some true) else ((bind_Binder_Key.f k x589000 x589001 x589002 x578000 x578001 x578002 x578003 x578004 x578005).bind fun bt615 => (if bt615.2.2.2.2.1 = true then (bodkinlaw19_BindCounts.j5 k (!(eqb36 bt615.1 x585000 bt615.2.1 x10 bt615.2.2.1 x585002 bt615.2.2.2.1 x585003)) x578000 x578001 x578002 x578003 x578004 x578005 x585000 x10 x585002 x585003 bt615.2.2.2.2.2.1 bt615.2.2.2.2.2.2.1 bt615.2.2.2.2.2.2.2) else (bodkinlaw19_BindCounts.j5 k true x578000 x578001 x578002 x578003 x578004 x578005 x585000 x10 x585002 x585003 bt615.2.2.2.2.2.1 bt615.2.2.2.2.2.2.1 bt615.2.2.2.2.2.2.2)))
def bodkinlaw19_BindCounts.j5 : Nat → Bool → Int → Int → Bool → Bool → Bool → ByteArray → Int → Int → ByteArray → Int → Int → Bool → Int → Option (Bool)
  | 0, _, _, _, _, _, _, _, _, _, _, _, _, _, _ => none
  | k + 1, x138, x578000, x578001, x578002, x578003, x578004, x578005, x585000, x585001, x585002, x585003, x589000, x589001, x589002 => if x138 = true then (some false) else ((bind_Binder_Key.f k x589000 x589001 x589002 x578000 x578001 x578002 x578003 x578004 x578005).bind fun bt624 => ((bind_Binder_Count.f bt624.2.2.2.2.2.1 bt624.2.2.2.2.2.2.1 bt624.2.2.2.2.2.2.2).bind fun bt633 => (if bt624.2.2.2.2.1 = true then (if (eqb36 bt624.1 x585000 bt624.2.1 1 bt624.2.2.1 x585002 bt624.2.2.2.1 x585003) = true then (some (!bt633.2.1)) else (some false)) else (some false))))
end
def bodkinlaw19_BindCounts.f (k : Nat) (l0 : List Int) (l1 : List Bool) (a2_0 : Int) (a2_1 : Int) (a2_2 : Bool) (a2_3 : Bool) (a2_4 : Bool) (a2_5 : ByteArray) : Option (Bool) := (bodkinlaw19_binds.f k).bind fun t578 => (if t578 = true then ((bind_Single.f k a2_0 a2_1 a2_2 a2_3 a2_4 a2_5).bind fun bt579 => (if bt579.2.2.2.2 = true then (if bt579.1 = 37 then (bodkinlaw19_BindCounts.j0 k l0 l1 true a2_0 a2_1 a2_2 a2_3 a2_4 a2_5 bt579.1 bt579.2.1 bt579.2.2.1 bt579.2.2.2.1) else (bodkinlaw19_BindCounts.j0 k l0 l1 ((l0.length : Int) == 0) a2_0 a2_1 a2_2 a2_3 a2_4 a2_5 bt579.1 bt579.2.1 bt579.2.2.1 bt579.2.2.2.1)) else (bodkinlaw19_BindCounts.j0 k l0 l1 true a2_0 a2_1 a2_2 a2_3 a2_4 a2_5 bt579.1 bt579.2.1 bt579.2.2.1 bt579.2.2.2.1))) else (some false))
theorem bodkinlaw19_BindCounts.mono_l : ∀ k, (∀ y0 y1 y2 y3 y4 y5 y6 y7 y8 y9 y10 y11 y12, LeO (bodkinlaw19_BindCounts.j0 k y0 y1 y2 y3 y4 y5 y6 y7 y8 y9 y10 y11 y12) (bodkinlaw19_BindCounts.j0 (k + 1) y0 y1 y2 y3 y4 y5 y6 y7 y8 y9 y10 y11 y12)) ∧ (∀ y0 y1 y2 y3 y4 y5 y6 y7 y8 y9 y10 y11 y12 y13 y14 y15 y16 y17, LeO (bodkinlaw19_BindCounts.l0 k y0 y1 y2 y3 y4 y5 y6 y7 y8 y9 y10 y11 y12 y13 y14 y15 y16 y17) (bodkinlaw19_BindCounts.l0 (k + 1) y0 y1 y2 y3 y4 y5 y6 y7 y8 y9 y10 y11 y12 y13 y14 y15 y16 y17)) ∧ (∀ y0 y1 y2 y3 y4 y5 y6 y7 y8 y9 y10 y11 y12 y13 y14 y15 y16 y17 y18 y19, LeO (bodkinlaw19_BindCounts.j2 k y0 y1 y2 y3 y4 y5 y6 y7 y8 y9 y10 y11 y12 y13 y14 y15 y16 y17 y18 y19) (bodkinlaw19_BindCounts.j2 (k + 1) y0 y1 y2 y3 y4 y5 y6 y7 y8 y9 y10 y11 y12 y13 y14 y15 y16 y17 y18 y19)) ∧ (∀ y0 y1 y2 y3 y4 y5 y6 y7 y8 y9 y10 y11 y12 y13 y14, LeO (bodkinlaw19_BindCounts.j3 k y0 y1 y2 y3 y4 y5 y6 y7 y8 y9 y10 y11 y12 y13 y14) (bodkinlaw19_BindCounts.j3 (k + 1) y0 y1 y2 y3 y4 y5 y6 y7 y8 y9 y10 y11 y12 y13 y14)) ∧ (∀ y0 y1 y2 y3 y4 y5 y6 y7 y8 y9 y10 y11 y12 y13 y14, LeO (bodkinlaw19_BindCounts.j4 k y0 y1 y2 y3 y4 y5 y6 y7 y8 y9 y10 y11 y12 y13 y14) (bodkinlaw19_BindCounts.j4 (k + 1) y0 y1 y2 y3 y4 y5 y6 y7 y8 y9 y10 y11 y12 y13 y14)) ∧ (∀ y0 y1 y2 y3 y4 y5 y6 y7 y8 y9 y10 y11 y12 y13, LeO (bodkinlaw19_BindCounts.j5 k y0 y1 y2 y3 y4 y5 y6 y7 y8 y9 y10 y11 y12 y13) (bodkinlaw19_BindCounts.j5 (k + 1) y0 y1 y2 y3 y4 y5 y6 y7 y8 y9 y10 y11 y12 y13))
  | 0 => ⟨fun _ _ _ _ _ _ _ _ _ _ _ _ _ r h => by simp [bodkinlaw19_BindCounts.j0] at h, fun _ _ _ _ _ _ _ _ _ _ _ _ _ _ _ _ _ _ r h => by simp [bodkinlaw19_BindCounts.l0] at h, fun _ _ _ _ _ _ _ _ _ _ _ _ _ _ _ _ _ _ _ _ r h => by simp [bodkinlaw19_BindCounts.j2] at h, fun _ _ _ _ _ _ _ _ _ _ _ _ _ _ _ r h => by simp [bodkinlaw19_BindCounts.j3] at h, fun _ _ _ _ _ _ _ _ _ _ _ _ _ _ _ r h => by simp [bodkinlaw19_BindCounts.j4] at h, fun _ _ _ _ _ _ _ _ _ _ _ _ _ _ r h => by simp [bodkinlaw19_BindCounts.j5] at h⟩
  | k + 1 => by
    obtain ⟨ih0, ih1, ih2, ih3, ih4, ih5⟩ := bodkinlaw19_BindCounts.mono_l k
    refine ⟨?_, ?_, ?_, ?_, ?_, ?_⟩
    · intro y0 y1 y2 y3 y4 y5 y6 y7 y8 y9 y10 y11 y12
      unfold bodkinlaw19_BindCounts.j0
      repeat' first
      | (with_reducible exact ih0 _ _ _ _ _ _ _ _ _ _ _ _ _)
      | (with_reducible exact ih1 _ _ _ _ _ _ _ _ _ _ _ _ _ _ _ _ _ _)
      | (with_reducible exact ih2 _ _ _ _ _ _ _ _ _ _ _ _ _ _ _ _ _ _ _ _)
      | (with_reducible exact ih3 _ _ _ _ _ _ _ _ _ _ _ _ _ _ _)
      | (with_reducible exact ih4 _ _ _ _ _ _ _ _ _ _ _ _ _ _ _)
      | (with_reducible exact ih5 _ _ _ _ _ _ _ _ _ _ _ _ _ _)
      | (with_reducible exact bind_Binder_Key.mono _ _ _ _ _ _ _ _ _ _)
      | (with_reducible exact bind_Single.mono _ _ _ _ _ _ _)
      | (with_reducible exact bodkinlaw19_binds.mono _)
      | (with_reducible exact LeO.refl _)
      | (with_reducible exact LeO.none _)
      | (with_reducible refine LeO.ite ?_ ?_)
      | (with_reducible refine LeO.bind ?_ (fun _ => ?_))
      | exact ih0 _ _ _ _ _ _ _ _ _ _ _ _ _
      | exact ih1 _ _ _ _ _ _ _ _ _ _ _ _ _ _ _ _ _ _
      | exact ih2 _ _ _ _ _ _ _ _ _ _ _ _ _ _ _ _ _ _ _ _
      | exact ih3 _ _ _ _ _ _ _ _ _ _ _ _ _ _ _
      | exact ih4 _ _ _ _ _ _ _ _ _ _ _ _ _ _ _
      | exact ih5 _ _ _ _ _ _ _ _ _ _ _ _ _ _
      | exact bind_Binder_Key.mono _ _ _ _ _ _ _ _ _ _
      | exact bind_Single.mono _ _ _ _ _ _ _
      | exact bodkinlaw19_binds.mono _
      | exact LeO.none _
      | refine LeO.ite ?_ ?_
      | refine LeO.bind ?_ (fun _ => ?_)
    · intro y0 y1 y2 y3 y4 y5 y6 y7 y8 y9 y10 y11 y12 y13 y14 y15 y16 y17
      unfold bodkinlaw19_BindCounts.l0
      repeat' first
      | (with_reducible exact ih0 _ _ _ _ _ _ _ _ _ _ _ _ _)
      | (with_reducible exact ih1 _ _ _ _ _ _ _ _ _ _ _ _ _ _ _ _ _ _)
      | (with_reducible exact ih2 _ _ _ _ _ _ _ _ _ _ _ _ _ _ _ _ _ _ _ _)
      | (with_reducible exact ih3 _ _ _ _ _ _ _ _ _ _ _ _ _ _ _)
      | (with_reducible exact ih4 _ _ _ _ _ _ _ _ _ _ _ _ _ _ _)
      | (with_reducible exact ih5 _ _ _ _ _ _ _ _ _ _ _ _ _ _)
      | (with_reducible exact bind_Binder_Key.mono _ _ _ _ _ _ _ _ _ _)
      | (with_reducible exact bind_Single.mono _ _ _ _ _ _ _)
      | (with_reducible exact bodkinlaw19_binds.mono _)
      | (with_reducible exact LeO.refl _)
      | (with_reducible exact LeO.none _)
      | (with_reducible refine LeO.ite ?_ ?_)
      | (with_reducible refine LeO.bind ?_ (fun _ => ?_))
      | exact ih0 _ _ _ _ _ _ _ _ _ _ _ _ _
      | exact ih1 _ _ _ _ _ _ _ _ _ _ _ _ _ _ _ _ _ _
      | exact ih2 _ _ _ _ _ _ _ _ _ _ _ _ _ _ _ _ _ _ _ _
      | exact ih3 _ _ _ _ _ _ _ _ _ _ _ _ _ _ _
      | exact ih4 _ _ _ _ _ _ _ _ _ _ _ _ _ _ _
      | exact ih5 _ _ _ _ _ _ _ _ _ _ _ _ _ _
      | exact bind_Binder_Key.mono _ _ _ _ _ _ _ _ _ _
      | exact bind_Single.mono _ _ _ _ _ _ _
      | exact bodkinlaw19_binds.mono _
      | exact LeO.none _
      | refine LeO.ite ?_ ?_
      | refine LeO.bind ?_ (fun _ => ?_)
    · intro y0 y1 y2 y3 y4 y5 y6 y7 y8 y9 y10 y11 y12 y13 y14 y15 y16 y17 y18 y19
      unfold bodkinlaw19_BindCounts.j2
      repeat' first
      | (with_reducible exact ih0 _ _ _ _ _ _ _ _ _ _ _ _ _)
      | (with_reducible exact ih1 _ _ _ _ _ _ _ _ _ _ _ _ _ _ _ _ _ _)
      | (with_reducible exact ih2 _ _ _ _ _ _ _ _ _ _ _ _ _ _ _ _ _ _ _ _)
      | (with_reducible exact ih3 _ _ _ _ _ _ _ _ _ _ _ _ _ _ _)
      | (with_reducible exact ih4 _ _ _ _ _ _ _ _ _ _ _ _ _ _ _)
      | (with_reducible exact ih5 _ _ _ _ _ _ _ _ _ _ _ _ _ _)
      | (with_reducible exact bind_Binder_Key.mono _ _ _ _ _ _ _ _ _ _)
      | (with_reducible exact bind_Single.mono _ _ _ _ _ _ _)
      | (with_reducible exact bodkinlaw19_binds.mono _)
      | (with_reducible exact LeO.refl _)
      | (with_reducible exact LeO.none _)
      | (with_reducible refine LeO.ite ?_ ?_)
      | (with_reducible refine LeO.bind ?_ (fun _ => ?_))
      | exact ih0 _ _ _ _ _ _ _ _ _ _ _ _ _
      | exact ih1 _ _ _ _ _ _ _ _ _ _ _ _ _ _ _ _ _ _
      | exact ih2 _ _ _ _ _ _ _ _ _ _ _ _ _ _ _ _ _ _ _ _
      | exact ih3 _ _ _ _ _ _ _ _ _ _ _ _ _ _ _
      | exact ih4 _ _ _ _ _ _ _ _ _ _ _ _ _ _ _
      | exact ih5 _ _ _ _ _ _ _ _ _ _ _ _ _ _
      | exact bind_Binder_Key.mono _ _ _ _ _ _ _ _ _ _
      | exact bind_Single.mono _ _ _ _ _ _ _
      | exact bodkinlaw19_binds.mono _
      | exact LeO.none _
      | refine LeO.ite ?_ ?_
      | refine LeO.bind ?_ (fun _ => ?_)
    · intro y0 y1 y2 y3 y4 y5 y6 y7 y8 y9 y10 y11 y12 y13 y14
      unfold bodkinlaw19_BindCounts.j3
      repeat' first
      | (with_reducible exact ih0 _ _ _ _ _ _ _ _ _ _ _ _ _)
      | (with_reducible exact ih1 _ _ _ _ _ _ _ _ _ _ _ _ _ _ _ _ _ _)
      | (with_reducible exact ih2 _ _ _ _ _ _ _ _ _ _ _ _ _ _ _ _ _ _ _ _)
      | (with_reducible exact ih3 _ _ _ _ _ _ _ _ _ _ _ _ _ _ _)
      | (with_reducible exact ih4 _ _ _ _ _ _ _ _ _ _ _ _ _ _ _)
      | (with_reducible exact ih5 _ _ _ _ _ _ _ _ _ _ _ _ _ _)
      | (with_reducible exact bind_Binder_Key.mono _ _ _ _ _ _ _ _ _ _)
      | (with_reducible exact bind_Single.mono _ _ _ _ _ _ _)
      | (with_reducible exact bodkinlaw19_binds.mono _)
      | (with_reducible exact LeO.refl _)
      | (with_reducible exact LeO.none _)
      | (with_reducible refine LeO.ite ?_ ?_)
      | (with_reducible refine LeO.bind ?_ (fun _ => ?_))
      | exact ih0 _ _ _ _ _ _ _ _ _ _ _ _ _
      | exact ih1 _ _ _ _ _ _ _ _ _ _ _ _ _ _ _ _ _ _
      | exact ih2 _ _ _ _ _ _ _ _ _ _ _ _ _ _ _ _ _ _ _ _
      | exact ih3 _ _ _ _ _ _ _ _ _ _ _ _ _ _ _
      | exact ih4 _ _ _ _ _ _ _ _ _ _ _ _ _ _ _
      | exact ih5 _ _ _ _ _ _ _ _ _ _ _ _ _ _
      | exact bind_Binder_Key.mono _ _ _ _ _ _ _ _ _ _
      | exact bind_Single.mono _ _ _ _ _ _ _
      | exact bodkinlaw19_binds.mono _
      | exact LeO.none _
      | refine LeO.ite ?_ ?_
      | refine LeO.bind ?_ (fun _ => ?_)
    · intro y0 y1 y2 y3 y4 y5 y6 y7 y8 y9 y10 y11 y12 y13 y14
      unfold bodkinlaw19_BindCounts.j4
      repeat' first
      | (with_reducible exact ih0 _ _ _ _ _ _ _ _ _ _ _ _ _)
      | (with_reducible exact ih1 _ _ _ _ _ _ _ _ _ _ _ _ _ _ _ _ _ _)
      | (with_reducible exact ih2 _ _ _ _ _ _ _ _ _ _ _ _ _ _ _ _ _ _ _ _)
      | (with_reducible exact ih3 _ _ _ _ _ _ _ _ _ _ _ _ _ _ _)
      | (with_reducible exact ih4 _ _ _ _ _ _ _ _ _ _ _ _ _ _ _)
      | (with_reducible exact ih5 _ _ _ _ _ _ _ _ _ _ _ _ _ _)
      | (with_reducible exact bind_Binder_Key.mono _ _ _ _ _ _ _ _ _ _)
      | (with_reducible exact bind_Single.mono _ _ _ _ _ _ _)
      | (with_reducible exact bodkinlaw19_binds.mono _)
      | (with_reducible exact LeO.refl _)
      | (with_reducible exact LeO.none _)
      | (with_reducible refine LeO.ite ?_ ?_)
      | (with_reducible refine LeO.bind ?_ (fun _ => ?_))
      | exact ih0 _ _ _ _ _ _ _ _ _ _ _ _ _
      | exact ih1 _ _ _ _ _ _ _ _ _ _ _ _ _ _ _ _ _ _
      | exact ih2 _ _ _ _ _ _ _ _ _ _ _ _ _ _ _ _ _ _ _ _
      | exact ih3 _ _ _ _ _ _ _ _ _ _ _ _ _ _ _
      | exact ih4 _ _ _ _ _ _ _ _ _ _ _ _ _ _ _
      | exact ih5 _ _ _ _ _ _ _ _ _ _ _ _ _ _
      | exact bind_Binder_Key.mono _ _ _ _ _ _ _ _ _ _
      | exact bind_Single.mono _ _ _ _ _ _ _
      | exact bodkinlaw19_binds.mono _
      | exact LeO.none _
      | refine LeO.ite ?_ ?_
      | refine LeO.bind ?_ (fun _ => ?_)
    · intro y0 y1 y2 y3 y4 y5 y6 y7 y8 y9 y10 y11 y12 y13
      unfold bodkinlaw19_BindCounts.j5
      repeat' first
      | (with_reducible exact ih0 _ _ _ _ _ _ _ _ _ _ _ _ _)
      | (with_reducible exact ih1 _ _ _ _ _ _ _ _ _ _ _ _ _ _ _ _ _ _)
      | (with_reducible exact ih2 _ _ _ _ _ _ _ _ _ _ _ _ _ _ _ _ _ _ _ _)
      | (with_reducible exact ih3 _ _ _ _ _ _ _ _ _ _ _ _ _ _ _)
      | (with_reducible exact ih4 _ _ _ _ _ _ _ _ _ _ _ _ _ _ _)
      | (with_reducible exact ih5 _ _ _ _ _ _ _ _ _ _ _ _ _ _)
      | (with_reducible exact bind_Binder_Key.mono _ _ _ _ _ _ _ _ _ _)
      | (with_reducible exact bind_Single.mono _ _ _ _ _ _ _)
      | (with_reducible exact bodkinlaw19_binds.mono _)
      | (with_reducible exact LeO.refl _)
      | (with_reducible exact LeO.none _)
      | (with_reducible refine LeO.ite ?_ ?_)
      | (with_reducible refine LeO.bind ?_ (fun _ => ?_))
      | exact ih0 _ _ _ _ _ _ _ _ _ _ _ _ _
      | exact ih1 _ _ _ _ _ _ _ _ _ _ _ _ _ _ _ _ _ _
      | exact ih2 _ _ _ _ _ _ _ _ _ _ _ _ _ _ _ _ _ _ _ _
      | exact ih3 _ _ _ _ _ _ _ _ _ _ _ _ _ _ _
      | exact ih4 _ _ _ _ _ _ _ _ _ _ _ _ _ _ _
      | exact ih5 _ _ _ _ _ _ _ _ _ _ _ _ _ _
      | exact bind_Binder_Key.mono _ _ _ _ _ _ _ _ _ _
      | exact bind_Single.mono _ _ _ _ _ _ _
      | exact bodkinlaw19_binds.mono _
      | exact LeO.none _
      | refine LeO.ite ?_ ?_
      | refine LeO.bind ?_ (fun _ => ?_)
theorem bodkinlaw19_BindCounts.mono : ∀ a0 a1 a2 a3 a4 a5 a6 a7 k, LeO (bodkinlaw19_BindCounts.f k a0 a1 a2 a3 a4 a5 a6 a7) (bodkinlaw19_BindCounts.f (k + 1) a0 a1 a2 a3 a4 a5 a6 a7) := by
 intro a0 a1 a2 a3 a4 a5 a6 a7 k
 obtain ⟨ih0, ih1, ih2, ih3, ih4, ih5⟩ := bodkinlaw19_BindCounts.mono_l k
 unfold bodkinlaw19_BindCounts.f
 repeat' first
   | (with_reducible exact ih0 _ _ _ _ _ _ _ _ _ _ _ _ _)
   | (with_reducible exact ih1 _ _ _ _ _ _ _ _ _ _ _ _ _ _ _ _ _ _)
   | (with_reducible exact ih2 _ _ _ _ _ _ _ _ _ _ _ _ _ _ _ _ _ _ _ _)
   | (with_reducible exact ih3 _ _ _ _ _ _ _ _ _ _ _ _ _ _ _)
   | (with_reducible exact ih4 _ _ _ _ _ _ _ _ _ _ _ _ _ _ _)
   | (with_reducible exact ih5 _ _ _ _ _ _ _ _ _ _ _ _ _ _)
   | (with_reducible exact bind_Binder_Key.mono _ _ _ _ _ _ _ _ _ _)
   | (with_reducible exact bind_Single.mono _ _ _ _ _ _ _)
   | (with_reducible exact bodkinlaw19_binds.mono _)
   | (with_reducible exact LeO.refl _)
   | (with_reducible exact LeO.none _)
   | (with_reducible refine LeO.ite ?_ ?_)
   | (with_reducible refine LeO.bind ?_ (fun _ => ?_))
   | exact ih0 _ _ _ _ _ _ _ _ _ _ _ _ _
   | exact ih1 _ _ _ _ _ _ _ _ _ _ _ _ _ _ _ _ _ _
   | exact ih2 _ _ _ _ _ _ _ _ _ _ _ _ _ _ _ _ _ _ _ _
   | exact ih3 _ _ _ _ _ _ _ _ _ _ _ _ _ _ _
   | exact ih4 _ _ _ _ _ _ _ _ _ _ _ _ _ _ _
   | exact ih5 _ _ _ _ _ _ _ _ _ _ _ _ _ _
   | exact bind_Binder_Key.mono _ _ _ _ _ _ _ _ _ _
   | exact bind_Single.mono _ _ _ _ _ _ _
   | exact bodkinlaw19_binds.mono _
   | exact LeO.none _
   | refine LeO.ite ?_ ?_
   | refine LeO.bind ?_ (fun _ => ?_)
set_option maxHeartbeats 8000000 in
set_option maxRecDepth 100000 in
theorem bodkinlaw19_BindCounts.calls (k : Nat) (A0 : Option Addr) (c0 : Nat) (l0 : List Int) (A1 : Option Addr) (c1 : Nat) (l1 : List Bool) (a2_0 : Int) (a2_1 : Int) (a2_2 : Bool) (a2_3 : Bool) (a2_4 : Bool) (a2_5 : ByteArray) (r : Bool) (w : World) (hr0 : Kd.C (Kd.int .u8) w A0 l0.length l0) (hc0 : l0.length ≤ c0) (hr1 : Kd.C Kd.bool w A1 l1.length l1) (hc1 : l1.length ≤ c1) (h : bodkinlaw19_BindCounts.f k l0 l1 a2_0 a2_1 a2_2 a2_3 a2_4 a2_5 = some r) :
    Calls Try.prog 10 #[.slice A0 l0.length c0, .slice A1 l1.length c1, .agg #[.int .i64 a2_0, .int .i32 a2_1, .bool a2_2, .bool a2_3, .bool a2_4, .string a2_5]] w fun e w' => e = .returned (.bool r) ∧ Below w.heap.size w w' := by
 have hu25 := Try.underlying25
 have hu36 := Try.underlying36
 have HR0 := aM hr0
 have HC0 := aM hc0
 clear hr0 hc0
 have HR1 := aM hr1
 have HC1 := aM hc1
 clear hr1 hc1
 have HB := aM (Below.refl w.heap.size w)
 have H : ((bodkinlaw19_binds.f k).bind fun t578 => (if t578 = true then ((bind_Single.f k a2_0 a2_1 a2_2 a2_3 a2_4 a2_5).bind fun bt579 => (if bt579.2.2.2.2 = true then (if bt579.1 = 37 then (bodkinlaw19_BindCounts.j0 k l0 l1 true a2_0 a2_1 a2_2 a2_3 a2_4 a2_5 bt579.1 bt579.2.1 bt579.2.2.1 bt579.2.2.2.1) else (bodkinlaw19_BindCounts.j0 k l0 l1 ((l0.length : Int) == 0) a2_0 a2_1 a2_2 a2_3 a2_4 a2_5 bt579.1 bt579.2.1 bt579.2.2.1 bt579.2.2.2.1)) else (bodkinlaw19_BindCounts.j0 k l0 l1 true a2_0 a2_1 a2_2 a2_3 a2_4 a2_5 bt579.1 bt579.2.1 bt579.2.2.1 bt579.2.2.2.1))) else (some false))) = some r := h
 clear h
 replace H := Option.bind_eq_some_iff.mp H
 obtain ⟨t578, A40, H⟩ := H
 replace H : (if t578 = true then ((bind_Single.f k a2_0 a2_1 a2_2 a2_3 a2_4 a2_5).bind fun bt579 => (if bt579.2.2.2.2 = true then (if bt579.1 = 37 then (bodkinlaw19_BindCounts.j0 k l0 l1 true a2_0 a2_1 a2_2 a2_3 a2_4 a2_5 bt579.1 bt579.2.1 bt579.2.2.1 bt579.2.2.2.1) else (bodkinlaw19_BindCounts.j0 k l0 l1 ((l0.length : Int) == 0) a2_0 a2_1 a2_2 a2_3 a2_4 a2_5 bt579.1 bt579.2.1 bt579.2.2.1 bt579.2.2.2.1)) else (bodkinlaw19_BindCounts.j0 k l0 l1 true a2_0 a2_1 a2_2 a2_3 a2_4 a2_5 bt579.1 bt579.2.1 bt579.2.2.1 bt579.2.2.2.1))) else (some false)) = some r := H
 have A4 := aM A40
 clear A40
 by_cases c5 : t578 = true
 ·subst c5
  replace H : ((bind_Single.f k a2_0 a2_1 a2_2 a2_3 a2_4 a2_5).bind fun bt579 => (if bt579.2.2.2.2 = true then (if bt579.1 = 37 then (bodkinlaw19_BindCounts.j0 k l0 l1 true a2_0 a2_1 a2_2 a2_3 a2_4 a2_5 bt579.1 bt579.2.1 bt579.2.2.1 bt579.2.2.2.1) else (bodkinlaw19_BindCounts.j0 k l0 l1 ((l0.length : Int) == 0) a2_0 a2_1 a2_2 a2_3 a2_4 a2_5 bt579.1 bt579.2.1 bt579.2.2.1 bt579.2.2.2.1)) else (bodkinlaw19_BindCounts.j0 k l0 l1 true a2_0 a2_1 a2_2 a2_3 a2_4 a2_5 bt579.1 bt579.2.1 bt579.2.2.1 bt579.2.2.2.1))) = some r := by rw [if_pos rfl] at H; exact H
  replace H := Option.bind_eq_some_iff.mp H
  obtain ⟨⟨t579, t580, t581, t582, t583⟩, A60, H⟩ := H
  replace H : (if t583 = true then (if t579 = 37 then (bodkinlaw19_BindCounts.j0 k l0 l1 true a2_0 a2_1 a2_2 a2_3 a2_4 a2_5 t579 t580 t581 t582) else (bodkinlaw19_BindCounts.j0 k l0 l1 ((l0.length : Int) == 0) a2_0 a2_1 a2_2 a2_3 a2_4 a2_5 t579 t580 t581 t582)) else (bodkinlaw19_BindCounts.j0 k l0 l1 true a2_0 a2_1 a2_2 a2_3 a2_4 a2_5 t579 t580 t581 t582)) = some r := H
  have A6 := aM A60
  clear A60
  have HC7 := aM H
  clear H
  go_enter Try.func10, Try.ntmps10
  go_upto_region 4 with (first | ((with_reducible refine gate_dst (N := 5) rfl ?_); (try (refine gate_guard (by rfl) ?_; dsimp only)); refine box_event ?hg (N := 5) ?hd (cs := #[.int .i64 a2_0, .int .i32 a2_1, .bool a2_2, .bool a2_3, .bool a2_4, .string a2_5]) (t := 25) ?hr ?_; (case hd => rfl); (case hg => rfl); (case hr => first | (go_simp; done) | (go_simp; rfl)); intro gb577 hg w8 hbox hb; have BK577 := aM (hbox); have GW577 := aM ((by rw [hg]; exact (bwZ (by apply_rules (transparency := .reducible) [HB.1, bwA, bwN, bwD])) : w.heap.size ≤ gb577)); have GE577 := aM ((by rw [hg]; exact (bwZ (by apply_rules (transparency := .reducible) [HB.1, bwA, bwN, bwD])) : w.heap.size ≤ gb577)); replace HB := aM (bwP (by apply_rules (transparency := .reducible) [HB.1, bwA, bwN, bwD]) hb); clear hb hbox hg) | ((with_reducible refine gate_callee (f := 13) rfl ?_); refine goesL_ (some 21) rfl rfl Try.func13 (by kernel_rfl) rfl #[] rfl (by (try simp only [List.map_toArray, List.map_cons, List.map_nil]); first | done | rfl) ?_; (with_reducible refine (bodkinlaw19_binds.calls k  true _ A4.1).mono ?_); rintro e w9 ⟨rfl, hb⟩; refine ⟨_, rfl, ?_⟩; replace BK577 := aM (bkB (g := gb577) (o := .cells #[.int .i64 a2_0, .int .i32 a2_1, .bool a2_2, .bool a2_3, .bool a2_4, .string a2_5] 25 (0, 0)) (by apply_rules (transparency := .reducible) [BK577.1, bkN, bkD, bkA]) hb); replace HB := aM (bwP (by apply_rules (transparency := .reducible) [HB.1, bwA, bwN, bwD, bwS, GE577.1]) hb); (try clear hb); (try clear hb2); (try clear hk); (try clear hi); obtain ⟨z10_0, z10_1, z10_2, z10_3, z10_4, z10_5, z10_6, z10_7, z10_8, z10_9, z10_10, z10_11⟩ := bx6 BK577.1) | ((with_reducible refine gate_callee (f := 19) rfl ?_); refine goesL_ (some 25) rfl rfl Try.func19 (by kernel_rfl) rfl #[.agg #[.int .i64 a2_0, .int .i32 a2_1, .bool a2_2, .bool a2_3, .bool a2_4, .string a2_5]] rfl (by (try simp only [List.map_toArray, List.map_cons, List.map_nil]); first | done | rfl) ?_; (with_reducible refine (bind_Single.calls k a2_0 a2_1 a2_2 a2_3 a2_4 a2_5 t579 t580 t581 t582 t583 _ A6.1).mono ?_); rintro e w11 ⟨rfl, hb⟩; refine ⟨_, rfl, ?_⟩; replace BK577 := aM (bkB (g := gb577) (o := .cells #[.int .i64 a2_0, .int .i32 a2_1, .bool a2_2, .bool a2_3, .bool a2_4, .string a2_5] 25 (0, 0)) (by apply_rules (transparency := .reducible) [BK577.1, bkN, bkD, bkA]) hb); replace HB := aM (bwP (by apply_rules (transparency := .reducible) [HB.1, bwA, bwN, bwD, bwS, GE577.1]) hb); (try clear hb); (try clear hb2); (try clear hk); (try clear hi)) | ((with_reducible refine gate_dst (N := 7) rfl ?_); (try (refine gate_guard (by rfl) ?_; dsimp only)); refine box_event ?hg (N := 7) ?hd (cs := #[.int .i64 0, .int .i64 0, .string (⟨#[]⟩ : ByteArray), .int .u8 0]) (t := 36) ?hr ?_; (case hd => rfl); (case hg => rfl); (case hr => first | (go_simp; done) | (go_simp; rfl)); intro gb584 hg w12 hbox hb; have BK584 := aM (hbox); have GW584 := aM ((by rw [hg]; exact (bwZ (by apply_rules (transparency := .reducible) [HB.1, bwA, bwN, bwD, bwS, GE577.1])) : w.heap.size ≤ gb584)); have GE584 := aM ((by rw [hg]; exact (bwZ (by apply_rules (transparency := .reducible) [HB.1, bwA, bwN, bwD, bwS, GE577.1])) : w.heap.size ≤ gb584)); replace HB := aM (bwP (by apply_rules (transparency := .reducible) [HB.1, bwA, bwN, bwD, bwS, GE577.1]) hb); have NB577_584 := aM ((by rw [hg]; exact Nat.ne_of_lt (bkL (g := gb577) (o := .cells #[.int .i64 a2_0, .int .i32 a2_1, .bool a2_2, .bool a2_3, .bool a2_4, .string a2_5] 25 (0, 0)) (by apply_rules (transparency := .reducible) [BK577.1, bkN, bkD, bkA])) : gb577 ≠ gb584)); have NB584_577 := aM ((by rw [hg]; exact Nat.ne_of_gt (bkL (g := gb577) (o := .cells #[.int .i64 a2_0, .int .i32 a2_1, .bool a2_2, .bool a2_3, .bool a2_4, .string a2_5] 25 (0, 0)) (by apply_rules (transparency := .reducible) [BK577.1, bkN, bkD, bkA])) : gb584 ≠ gb577)); replace BK577 := aM (bkB (g := gb577) (o := .cells #[.int .i64 a2_0, .int .i32 a2_1, .bool a2_2, .bool a2_3, .bool a2_4, .string a2_5] 25 (0, 0)) (by apply_rules (transparency := .reducible) [BK577.1, bkN, bkD, bkA]) hb); clear hb hbox hg; have hnb13 := NB584_577.1; have hnc13 := NB577_584.1; obtain ⟨z14_0, z14_1, z14_2, z14_3, z14_4, z14_5, z14_6, z14_7⟩ := bx4 BK584.1))
  (try simp only [Act.put, List.setIfInBounds_toArray, List.set_cons_zero, List.set_cons_succ])
  go_cut [39] (fun v39 wc => ∃ (kq : Nat) (x39_6 : Bool), v39 = .bool x39_6 ∧ Aside0 (bodkinlaw19_BindCounts.j0 kq l0 l1 x39_6 a2_0 a2_1 a2_2 a2_3 a2_4 a2_5 t579 t580 t581 t582 = some r) ∧ Aside0 (kq ≤ k) ∧ Aside0 (wc.heap[gb577]? = some (.cells #[.int .i64 a2_0, .int .i32 a2_1, .bool a2_2, .bool a2_3, .bool a2_4, .string a2_5] 25 (0, 0))) ∧ Aside0 (wc.heap[gb584]? = some (.cells #[.int .i64 t579, .int .i64 t580, .string t581, .int .u8 t582] 36 (0, 0))) ∧ Aside0 (Below w.heap.size w wc))
  case first =>
   have H := HC7.1
   clear HC7
   by_cases c15 : t583 = true
   ·subst c15
    replace H : (if t579 = 37 then (bodkinlaw19_BindCounts.j0 k l0 l1 true a2_0 a2_1 a2_2 a2_3 a2_4 a2_5 t579 t580 t581 t582) else (bodkinlaw19_BindCounts.j0 k l0 l1 ((l0.length : Int) == 0) a2_0 a2_1 a2_2 a2_3 a2_4 a2_5 t579 t580 t581 t582)) = some r := by rw [if_pos rfl] at H; exact H
    by_cases c16 : t579 = 37
    ·rw [if_pos c16] at H
     have c16b0 : (t579 == 37) = true := beq_iff_eq.mpr c16
     have c16b1 : (t579 != 37) = false := bne_eq_false_iff_eq.mpr c16
     clear c16
     (first | rw [c16b0] | (simp only [i64_w, i32_w]; rw [c16b0]) | skip)
     have H' := aM H
     clear H
     have hnb17 := NB584_577.1
     have hnc17 := NB577_584.1
     obtain ⟨z18_0, z18_1, z18_2, z18_3, z18_4, z18_5, z18_6, z18_7⟩ := bx4 BK584.1
     go_wp2
     go_meet
     case rel => exact ⟨_, (true), rfl, H', ⟨by omega⟩, ⟨by apply_rules (transparency := .reducible) [BK577.1, bkN, bkD, bkA, bkR, NB577_584.1]⟩, ⟨by (with_reducible repeat first | apply bkN | apply bkD | apply bkA); refine put4 (cs := #[.int .i64 0, .int .i64 0, .string (⟨#[]⟩ : ByteArray), .int .u8 0]) ?_ rfl; (with_reducible repeat first | apply bkN | apply bkD | apply bkA); exact BK584.1⟩, ⟨by apply_rules (transparency := .reducible) [HB.1, bwA, bwN, bwD, bwS, GE577.1, GE584.1]⟩⟩
    rw [if_neg c16] at H
    have c16b0 : (t579 == 37) = false := beq_eq_false_iff_ne.mpr c16
    have c16b1 : (t579 != 37) = true := bne_iff_ne.mpr c16
    (first | rw [c16b0] | (simp only [i64_w, i32_w]; rw [c16b0]) | skip)
    have H' := aM H
    clear H
    have hnb19 := NB584_577.1
    have hnc19 := NB577_584.1
    obtain ⟨z20_0, z20_1, z20_2, z20_3, z20_4, z20_5, z20_6, z20_7⟩ := bx4 BK584.1
    go_wp2
    go_meet
    case rel => exact ⟨_, (((l0.length : Int) == 0)), rfl, H', ⟨by omega⟩, ⟨by apply_rules (transparency := .reducible) [BK577.1, bkN, bkD, bkA, bkR, NB577_584.1]⟩, ⟨by (with_reducible repeat first | apply bkN | apply bkD | apply bkA); refine put4 (cs := #[.int .i64 0, .int .i64 0, .string (⟨#[]⟩ : ByteArray), .int .u8 0]) ?_ rfl; (with_reducible repeat first | apply bkN | apply bkD | apply bkA); exact BK584.1⟩, ⟨by apply_rules (transparency := .reducible) [HB.1, bwA, bwN, bwD, bwS, GE577.1, GE584.1]⟩⟩
   replace c15 := Bool.eq_false_iff.mpr c15
   subst c15
   replace H : (bodkinlaw19_BindCounts.j0 k l0 l1 true a2_0 a2_1 a2_2 a2_3 a2_4 a2_5 t579 t580 t581 t582) = some r := by rw [if_neg (show ¬ (false = true) by decide)] at H; exact H
   have H' := aM H
   clear H
   go_wp2
   go_meet
   case rel => exact ⟨_, (true), rfl, H', ⟨by omega⟩, ⟨by apply_rules (transparency := .reducible) [BK577.1, bkN, bkD, bkA, bkR, NB577_584.1]⟩, ⟨by (with_reducible repeat first | apply bkN | apply bkD | apply bkA); refine put4 (cs := #[.int .i64 0, .int .i64 0, .string (⟨#[]⟩ : ByteArray), .int .u8 0]) ?_ rfl; (with_reducible repeat first | apply bkN | apply bkD | apply bkA); exact BK584.1⟩, ⟨by apply_rules (transparency := .reducible) [HB.1, bwA, bwN, bwD, bwS, GE577.1, GE584.1]⟩⟩
  clear HC7
  try clear c1
  try clear c5
  try clear z10_0 z10_1 z10_2 z10_3 z10_4 z10_5 z10_6 z10_7 z10_8 z10_9 z10_10 z10_11
  try clear z14_0 z14_1 z14_2 z14_3 z14_4 z14_5 z14_6 z14_7
  obtain ⟨kq, x39_6, rfl, HA, HJ6, BK577, BK584, HB⟩ := hcut
  obtain _ | kj6 := kq
  ·exact absurd HA.1 (by simp [bodkinlaw19_BindCounts.j0])
  have H := HA.1
  clear HA
  simp only [bodkinlaw19_BindCounts.j0] at H
  by_cases c21 : x39_6 = true
  ·subst c21
   replace H : (some true) = some r := by rw [if_pos rfl] at H; exact H
   obtain rfl := Option.some.inj H
   go_wp2
   go_ret
   exact ⟨rfl, by apply_rules (transparency := .reducible) [HB.1, bwA, bwN, bwD, bwS, GE577.1, GE584.1]⟩
  replace c21 := Bool.eq_false_iff.mpr c21
  subst c21
  replace H : ((bind_New.f).bind fun bt585 => (bodkinlaw19_BindCounts.l0 kj6 l1 0 l0 (l0.length : Int) 0 a2_0 a2_1 a2_2 a2_3 a2_4 a2_5 t579 t580 t581 t582 bt585.1 bt585.2.1 bt585.2.2)) = some r := by rw [if_neg (show ¬ (false = true) by decide)] at H; exact H
  replace H := Option.bind_eq_some_iff.mp H
  obtain ⟨⟨t585, t586, t587⟩, A220, H⟩ := H
  replace H : (bodkinlaw19_BindCounts.l0 kj6 l1 0 l0 (l0.length : Int) 0 a2_0 a2_1 a2_2 a2_3 a2_4 a2_5 t579 t580 t581 t582 t585 t586 t587) = some r := H
  have A22 := aM A220
  clear A220
  have H' := aM H
  clear H
  go_wp2_with (first | ((with_reducible refine gate_callee (f := 21) rfl ?_); refine goesL_ (some 40) rfl rfl Try.func21 (by kernel_rfl) rfl #[] rfl (by (try simp only [List.map_toArray, List.map_cons, List.map_nil]); first | done | rfl) ?_; (with_reducible refine (bind_New.calls  t585 t586 t587 w _ ?side1 A22.1).mono ?_); (case side1 => apply_rules (transparency := .reducible) [HB.1, bwA, bwN, bwD, bwS, GE577.1, GE584.1]); rintro e w23 ⟨g588, rfl, hi, hb, hb2⟩; refine ⟨_, rfl, ?_⟩; replace HB := aM (hb); have HI588 := aM (hi); have NB588_577 := aM (IsS53.ne_blk hi (bkB (g := gb577) (o := .cells #[.int .i64 a2_0, .int .i32 a2_1, .bool a2_2, .bool a2_3, .bool a2_4, .string a2_5] 25 (0, 0)) (by apply_rules (transparency := .reducible) [BK577.1, bkN, bkD, bkA]) hb2) (by decide)); have NB577_588 := aM (Ne.symm (IsS53.ne_blk hi (bkB (g := gb577) (o := .cells #[.int .i64 a2_0, .int .i32 a2_1, .bool a2_2, .bool a2_3, .bool a2_4, .string a2_5] 25 (0, 0)) (by apply_rules (transparency := .reducible) [BK577.1, bkN, bkD, bkA]) hb2) (by decide))); replace BK577 := aM (bkB (g := gb577) (o := .cells #[.int .i64 a2_0, .int .i32 a2_1, .bool a2_2, .bool a2_3, .bool a2_4, .string a2_5] 25 (0, 0)) (by apply_rules (transparency := .reducible) [BK577.1, bkN, bkD, bkA]) hb2); have NB588_584 := aM (IsS53.ne_blk hi (bkB (g := gb584) (o := .cells #[.int .i64 t579, .int .i64 t580, .string t581, .int .u8 t582] 36 (0, 0)) (by apply_rules (transparency := .reducible) [BK584.1, bkN, bkD, bkA]) hb2) (by decide)); have NB584_588 := aM (Ne.symm (IsS53.ne_blk hi (bkB (g := gb584) (o := .cells #[.int .i64 t579, .int .i64 t580, .string t581, .int .u8 t582] 36 (0, 0)) (by apply_rules (transparency := .reducible) [BK584.1, bkN, bkD, bkA]) hb2) (by decide))); replace BK584 := aM (bkB (g := gb584) (o := .cells #[.int .i64 t579, .int .i64 t580, .string t581, .int .u8 t582] 36 (0, 0)) (by apply_rules (transparency := .reducible) [BK584.1, bkN, bkD, bkA]) hb2); (try clear hb); (try clear hb2); (try clear hk); (try clear hi)))
  go_loopg [10, 43] kj6 (fun kq v10 v43 w' => ∃ (x10_2 : Int) (x43_2 : Int) (x589000_2 : Int) (x589001_2 : Bool) (x589002_2 : Int), v10 = .int .i64 x10_2 ∧ v43 = .int .i64 x43_2 ∧ Aside0 (bodkinlaw19_BindCounts.l0 kq l1 x10_2 l0 (l0.length : Int) x43_2 a2_0 a2_1 a2_2 a2_3 a2_4 a2_5 t579 t580 t581 t582 x589000_2 x589001_2 x589002_2 = some r) ∧ Aside0 (kq ≤ kj6) ∧ Aside0 (w'.heap[gb577]? = some (.cells #[.int .i64 a2_0, .int .i32 a2_1, .bool a2_2, .bool a2_3, .bool a2_4, .string a2_5] 25 (0, 0))) ∧ Aside0 (w'.heap[gb584]? = some (.cells #[.int .i64 t579, .int .i64 t580, .string t581, .int .u8 t582] 36 (0, 0))) ∧ Aside0 (IsS53 w w' g588 x589000_2 x589001_2 x589002_2) ∧ Aside0 (Below w.heap.size w w'))
  case atStart => exact ⟨(0), (0), (t585), (t586), (t587), rfl, rfl, H', ⟨Nat.le_refl _⟩, ⟨by apply_rules (transparency := .reducible) [BK577.1, bkN, bkD, bkA]⟩, ⟨by apply_rules (transparency := .reducible) [BK584.1, bkN, bkD, bkA]⟩, ⟨by repeat (first | (with_reducible first | exact HI588.1 | apply IsS53.alloc | apply IsS53.drewN | apply IsS53.drew | apply IsS53.set_0 | apply IsS53.set_1 | apply IsS53.set_2 | refine IsS53.far ?_ NB588_577.1 _ | refine IsS53.far ?_ NB588_584.1 _) | exact HI588.1)⟩, ⟨by apply_rules (transparency := .reducible) [HB.1, bwA, bwN, bwD, bwS, (IsS53.ge HI588.1), GE577.1, GE584.1]⟩⟩
  clear H'
  try clear c1
  try clear c5
  try clear c21
  try clear z10_0 z10_1 z10_2 z10_3 z10_4 z10_5 z10_6 z10_7 z10_8 z10_9 z10_10 z10_11
  try clear z14_0 z14_1 z14_2 z14_3 z14_4 z14_5 z14_6 z14_7
  obtain ⟨x10_2, x43_2, x589000_2, x589001_2, x589002_2, rfl, rfl, HA, HK2, BK577, BK584, HI588, HB⟩ := hrel
  obtain _ | k2 := gk
  ·exact absurd HA.1 (by simp [bodkinlaw19_BindCounts.l0])
  have H := HA.1
  clear HA
  simp only [bodkinlaw19_BindCounts.l0] at H
  by_cases c24 : x43_2 < (l0.length : Int)
  ·rw [if_pos c24] at H
   have c24b0 : decide (x43_2 < (l0.length : Int)) = true := decide_eq_true c24
   clear c24
   by_cases c25 : 0 ≤ x43_2
   ·rw [if_pos c25] at H
    have c25b0 : decide (0 ≤ x43_2) = true := decide_eq_true c25
    clear c25
    by_cases c26 : x43_2 < (l0.length : Int)
    ·rw [if_pos c26] at H
     have c26b0 : decide (x43_2 < (l0.length : Int)) = true := decide_eq_true c26
     clear c26
     have HC27 := aM H
     clear H
     have p589 : 0 ≤ (x43_2 : Int) := of_decide_eq_true (by first | (with_reducible assumption) | assumption)
     have q589 : x43_2 < (l0.length : Int) := of_decide_eq_true (by first | (with_reducible assumption) | assumption)
     obtain ⟨ad589, e589, hx589_0⟩ := Kd.at_int HR0.out x43_2 p589 q589
     cases e589
     replace hx589_0 := (HB.1.cell (World.block_lt_of_cell? w _ hx589_0)).trans hx589_0
     replace p589 := eq_true p589
     replace q589 := eq_true q589
     go_upto_region 11 with (fail)
     go_cut [13] (fun v13 wc => ∃ (kq : Nat) (x13_26 : Bool), v13 = .bool x13_26 ∧ Aside0 (bodkinlaw19_BindCounts.j2 kq l1 x10_2 (rd l0 x43_2) x13_26 l0 (l0.length : Int) x43_2 a2_0 a2_1 a2_2 a2_3 a2_4 a2_5 t579 t580 t581 t582 x589000_2 x589001_2 x589002_2 = some r) ∧ Aside0 (kq ≤ k2) ∧ Aside0 (wc.heap[gb577]? = some (.cells #[.int .i64 a2_0, .int .i32 a2_1, .bool a2_2, .bool a2_3, .bool a2_4, .string a2_5] 25 (0, 0))) ∧ Aside0 (wc.heap[gb584]? = some (.cells #[.int .i64 t579, .int .i64 t580, .string t581, .int .u8 t582] 36 (0, 0))) ∧ Aside0 (IsS53 w wc g588 x589000_2 x589001_2 x589002_2) ∧ Aside0 (Below w.heap.size w wc))
     case first =>
      have H := HC27.1
      clear HC27
      by_cases c28 : x43_2 = 0
      ·rw [if_pos c28] at H
       have c28b0 : (x43_2 == 0) = true := beq_iff_eq.mpr c28
       have c28b1 : (x43_2 != 0) = false := bne_eq_false_iff_eq.mpr c28
       clear c28
       (first | rw [c28b0] | (simp only [i64_w, i32_w]; rw [c28b0]) | skip)
       have H' := aM H
       clear H
       go_wp2
       go_meet
       case rel => exact ⟨_, (true), rfl, H', ⟨by have := HJ6.1; have := HK2.out; first | omega | exact Nat.le_refl _⟩, ⟨by apply_rules (transparency := .reducible) [BK577.1, bkN, bkD, bkA]⟩, ⟨by apply_rules (transparency := .reducible) [BK584.1, bkN, bkD, bkA]⟩, ⟨by repeat (first | (with_reducible first | exact HI588.1 | apply IsS53.alloc | apply IsS53.drewN | apply IsS53.drew | apply IsS53.set_0 | apply IsS53.set_1 | apply IsS53.set_2 | refine IsS53.far ?_ NB588_577.1 _ | refine IsS53.far ?_ NB588_584.1 _) | exact HI588.1)⟩, ⟨by apply_rules (transparency := .reducible) [HB.1, bwA, bwN, bwD, bwS, (IsS53.ge HI588.1), GE577.1, GE584.1]⟩⟩
      rw [if_neg c28] at H
      have c28b0 : (x43_2 == 0) = false := beq_eq_false_iff_ne.mpr c28
      have c28b1 : (x43_2 != 0) = true := bne_iff_ne.mpr c28
      (first | rw [c28b0] | (simp only [i64_w, i32_w]; rw [c28b0]) | skip)
      by_cases c29 : x43_2 < (l1.length : Int)
      ·rw [if_pos c29] at H
       have c29b0 : decide (x43_2 < (l1.length : Int)) = true := decide_eq_true c29
       clear c29
       have H' := aM H
       clear H
       have p590 : 0 ≤ (x43_2 : Int) := of_decide_eq_true (by first | (with_reducible assumption) | assumption)
       have q590 : x43_2 < (l1.length : Int) := of_decide_eq_true (by first | (with_reducible assumption) | assumption)
       obtain ⟨ad590, e590, hx590_0⟩ := Kd.at_bool HR1.out x43_2 p590 q590
       cases e590
       replace hx590_0 := (HB.1.cell (World.block_lt_of_cell? w _ hx590_0)).trans hx590_0
       replace p590 := eq_true p590
       replace q590 := eq_true q590
       go_wp2
       go_meet
       case rel => exact ⟨_, (rdOf false l1 x43_2), rfl, H', ⟨by have := HJ6.1; have := HK2.out; first | omega | exact Nat.le_refl _⟩, ⟨by apply_rules (transparency := .reducible) [BK577.1, bkN, bkD, bkA]⟩, ⟨by apply_rules (transparency := .reducible) [BK584.1, bkN, bkD, bkA]⟩, ⟨by repeat (first | (with_reducible first | exact HI588.1 | apply IsS53.alloc | apply IsS53.drewN | apply IsS53.drew | apply IsS53.set_0 | apply IsS53.set_1 | apply IsS53.set_2 | refine IsS53.far ?_ NB588_577.1 _ | refine IsS53.far ?_ NB588_584.1 _) | exact HI588.1)⟩, ⟨by apply_rules (transparency := .reducible) [HB.1, bwA, bwN, bwD, bwS, (IsS53.ge HI588.1), GE577.1, GE584.1]⟩⟩
      rw [if_neg c29] at H
      have c29b0 : decide (x43_2 < (l1.length : Int)) = false := decide_eq_false c29
      clear c29
      have H' := aM H
      clear H
      go_wp2
      go_meet
      case rel => exact ⟨_, (false), rfl, H', ⟨by have := HJ6.1; have := HK2.out; first | omega | exact Nat.le_refl _⟩, ⟨by apply_rules (transparency := .reducible) [BK577.1, bkN, bkD, bkA]⟩, ⟨by apply_rules (transparency := .reducible) [BK584.1, bkN, bkD, bkA]⟩, ⟨by repeat (first | (with_reducible first | exact HI588.1 | apply IsS53.alloc | apply IsS53.drewN | apply IsS53.drew | apply IsS53.set_0 | apply IsS53.set_1 | apply IsS53.set_2 | refine IsS53.far ?_ NB588_577.1 _ | refine IsS53.far ?_ NB588_584.1 _) | exact HI588.1)⟩, ⟨by apply_rules (transparency := .reducible) [HB.1, bwA, bwN, bwD, bwS, (IsS53.ge HI588.1), GE577.1, GE584.1]⟩⟩
     clear HC27
     try clear c1
     try clear c5
     try clear c21
     try clear c24
     try clear c24b0
     try clear c25
     try clear c25b0
     try clear c26
     try clear c26b0
     try clear z10_0 z10_1 z10_2 z10_3 z10_4 z10_5 z10_6 z10_7 z10_8 z10_9 z10_10 z10_11
     try clear z14_0 z14_1 z14_2 z14_3 z14_4 z14_5 z14_6 z14_7
     try clear hx589_0
     try clear p589
     try clear q589
     obtain ⟨kq, x13_26, rfl, HA, HJ26, BK577, BK584, HI588, HB⟩ := hcut
     obtain _ | kj26 := kq
     ·exact absurd HA.1 (by simp [bodkinlaw19_BindCounts.j2])
     have H := HA.1
     clear HA
     simp only [bodkinlaw19_BindCounts.j2] at H
     replace H := Option.bind_eq_some_iff.mp H
     obtain ⟨⟨t591, t592, t593, t594, t595, t596⟩, A300, H⟩ := H
     replace H : ((bind_Binder_Key.f kj26 x589000_2 x589001_2 x589002_2 t591 t592 t593 t594 t595 t596).bind fun bt597 => (if bt597.2.2.2.2.1 = true then (some false) else (if (eqb36 bt597.1 0 bt597.2.1 0 bt597.2.2.1 (⟨#[]⟩ : ByteArray) bt597.2.2.2.1 0) = true then ((bind_Binder_Prefix.f bt597.2.2.2.2.2.1 bt597.2.2.2.2.2.2.1 bt597.2.2.2.2.2.2.2).bind fun bt606 => (if bt606.1.toList = ([] : List UInt8) then (bodkinlaw19_BindCounts.l0 kj26 l1 (mn (wrap64 ((wrap64 (x10_2 * 10)) + (wrap64 (Int.tmod (rd l0 x43_2) 10)))) 1000) l0 (l0.length : Int) (wrap64 (x43_2 + 1)) a2_0 a2_1 a2_2 a2_3 a2_4 a2_5 t579 t580 t581 t582 bt606.2.1 bt606.2.2.1 bt606.2.2.2) else (some false))) else (some false)))) = some r := H
     have A30 := aM A300
     clear A300
     replace H := Option.bind_eq_some_iff.mp H
     obtain ⟨⟨t597, t598, t599, t600, t601, t602, t603, t604⟩, A310, H⟩ := H
     replace H : (if t601 = true then (some false) else (if (eqb36 t597 0 t598 0 t599 (⟨#[]⟩ : ByteArray) t600 0) = true then ((bind_Binder_Prefix.f t602 t603 t604).bind fun bt606 => (if bt606.1.toList = ([] : List UInt8) then (bodkinlaw19_BindCounts.l0 kj26 l1 (mn (wrap64 ((wrap64 (x10_2 * 10)) + (wrap64 (Int.tmod (rd l0 x43_2) 10)))) 1000) l0 (l0.length : Int) (wrap64 (x43_2 + 1)) a2_0 a2_1 a2_2 a2_3 a2_4 a2_5 t579 t580 t581 t582 bt606.2.1 bt606.2.2.1 bt606.2.2.2) else (some false))) else (some false))) = some r := H
     have A31 := aM A310
     clear A310
     by_cases c32 : t601 = true
     ·subst c32
      replace H : (some false) = some r := by rw [if_pos rfl] at H; exact H
      obtain rfl := Option.some.inj H
      go_wp2_with (first | ((with_reducible refine gate_callee (f := 15) rfl ?_); refine goesL_ (some 69) rfl rfl Try.func15 (by kernel_rfl) rfl #[.int .i32 (wrap32 (48 + (wrap32 (Int.tmod (rd l0 x43_2) 10)))), .bool x13_26] rfl (by (try simp only [List.map_toArray, List.map_cons, List.map_nil]); first | done | rfl) ?_; (with_reducible refine (bodkinlaw19_char.calls (wrap32 (48 + (wrap32 (Int.tmod (rd l0 x43_2) 10)))) x13_26 t591 t592 t593 t594 t595 t596 _ A30.1).mono ?_); rintro e w33 ⟨rfl, hb⟩; refine ⟨_, rfl, ?_⟩; replace BK577 := aM (bkB (g := gb577) (o := .cells #[.int .i64 a2_0, .int .i32 a2_1, .bool a2_2, .bool a2_3, .bool a2_4, .string a2_5] 25 (0, 0)) (by apply_rules (transparency := .reducible) [BK577.1, bkN, bkD, bkA]) hb); replace BK584 := aM (bkB (g := gb584) (o := .cells #[.int .i64 t579, .int .i64 t580, .string t581, .int .u8 t582] 36 (0, 0)) (by apply_rules (transparency := .reducible) [BK584.1, bkN, bkD, bkA]) hb); replace HB := aM (bwP (by apply_rules (transparency := .reducible) [HB.1, bwA, bwN, bwD, bwS, (IsS53.ge HI588.1), GE577.1, GE584.1]) hb); replace HI588 := aM (IsS53.below (by repeat (first | (with_reducible first | exact HI588.1 | apply IsS53.alloc | apply IsS53.drewN | apply IsS53.drew | apply IsS53.set_0 | apply IsS53.set_1 | apply IsS53.set_2 | refine IsS53.far ?_ NB588_577.1 _ | refine IsS53.far ?_ NB588_584.1 _) | exact HI588.1)) hb); (try clear hb); (try clear hb2); (try clear hk); (try clear hi)) | ((with_reducible refine gate_callee (f := 23) rfl ?_); refine goesL_ (some 70) rfl rfl Try.func23 (by kernel_rfl) rfl #[.pointer (some ⟨g588, 0, none⟩), .agg #[.int .i64 t591, .int .i32 t592, .bool t593, .bool t594, .bool t595, .string t596]] rfl (by (try simp only [List.map_toArray, List.map_cons, List.map_nil]); first | done | rfl) ?_; (with_reducible refine (bind_Binder_Key.calls kj26 g588 x589000_2 x589001_2 x589002_2 t591 t592 t593 t594 t595 t596 t597 t598 t599 t600 true t602 t603 t604 w _ ?side1 ?side2 A31.1).mono ?_); (case side1 => repeat (first | (with_reducible first | exact HI588.1 | apply IsS53.alloc | apply IsS53.drewN | apply IsS53.drew | apply IsS53.set_0 | apply IsS53.set_1 | apply IsS53.set_2 | refine IsS53.far ?_ NB588_577.1 _ | refine IsS53.far ?_ NB588_584.1 _) | exact HI588.1)); (case side2 => apply_rules (transparency := .reducible) [HB.1, bwA, bwN, bwD, bwS, (IsS53.ge HI588.1), GE577.1, GE584.1]); rintro e w34 ⟨rfl, hi, hb, hk⟩; refine ⟨_, rfl, ?_⟩; replace BK577 := aM (KeepBut.blk hk (g' := gb577) (o := .cells #[.int .i64 a2_0, .int .i32 a2_1, .bool a2_2, .bool a2_3, .bool a2_4, .string a2_5] 25 (0, 0)) (by apply_rules (transparency := .reducible) [BK577.1, bkN, bkD, bkA]) NB577_588.1 (by simp)); replace BK584 := aM (KeepBut.blk hk (g' := gb584) (o := .cells #[.int .i64 t579, .int .i64 t580, .string t581, .int .u8 t582] 36 (0, 0)) (by apply_rules (transparency := .reducible) [BK584.1, bkN, bkD, bkA]) NB584_588.1 (by simp)); replace HB := aM (hb); replace HI588 := aM (hi); (try clear hb); (try clear hb2); (try clear hk); (try clear hi)) | ((with_reducible refine gate_dst (N := 14) rfl ?_); (try (refine gate_guard (by rfl) ?_; dsimp only)); refine box_event ?hg (N := 14) ?hd (cs := #[.int .i64 0, .int .i64 0, .string (⟨#[]⟩ : ByteArray), .int .u8 0]) (t := 36) ?hr ?_; (case hd => rfl); (case hg => rfl); (case hr => first | (go_simp; done) | (go_simp; rfl)); intro gb605 hg w35 hbox hb; have BK605 := aM (hbox); have GW605 := aM ((by rw [hg]; exact (bwZ (by apply_rules (transparency := .reducible) [HB.1, bwA, bwN, bwD, bwS, (IsS53.ge HI588.1), GE577.1, GE584.1])) : w.heap.size ≤ gb605)); have GE605 := aM ((by rw [hg]; exact (bwZ (by apply_rules (transparency := .reducible) [HB.1, bwA, bwN, bwD, bwS, (IsS53.ge HI588.1), GE577.1, GE584.1])) : w.heap.size ≤ gb605)); replace HB := aM (bwP (by apply_rules (transparency := .reducible) [HB.1, bwA, bwN, bwD, bwS, (IsS53.ge HI588.1), GE577.1, GE584.1]) hb); have NB577_605 := aM ((by rw [hg]; exact Nat.ne_of_lt (bkL (g := gb577) (o := .cells #[.int .i64 a2_0, .int .i32 a2_1, .bool a2_2, .bool a2_3, .bool a2_4, .string a2_5] 25 (0, 0)) (by apply_rules (transparency := .reducible) [BK577.1, bkN, bkD, bkA])) : gb577 ≠ gb605)); have NB605_577 := aM ((by rw [hg]; exact Nat.ne_of_gt (bkL (g := gb577) (o := .cells #[.int .i64 a2_0, .int .i32 a2_1, .bool a2_2, .bool a2_3, .bool a2_4, .string a2_5] 25 (0, 0)) (by apply_rules (transparency := .reducible) [BK577.1, bkN, bkD, bkA])) : gb605 ≠ gb577)); replace BK577 := aM (bkB (g := gb577) (o := .cells #[.int .i64 a2_0, .int .i32 a2_1, .bool a2_2, .bool a2_3, .bool a2_4, .string a2_5] 25 (0, 0)) (by apply_rules (transparency := .reducible) [BK577.1, bkN, bkD, bkA]) hb); have NB584_605 := aM ((by rw [hg]; exact Nat.ne_of_lt (bkL (g := gb584) (o := .cells #[.int .i64 t579, .int .i64 t580, .string t581, .int .u8 t582] 36 (0, 0)) (by apply_rules (transparency := .reducible) [BK584.1, bkN, bkD, bkA])) : gb584 ≠ gb605)); have NB605_584 := aM ((by rw [hg]; exact Nat.ne_of_gt (bkL (g := gb584) (o := .cells #[.int .i64 t579, .int .i64 t580, .string t581, .int .u8 t582] 36 (0, 0)) (by apply_rules (transparency := .reducible) [BK584.1, bkN, bkD, bkA])) : gb605 ≠ gb584)); replace BK584 := aM (bkB (g := gb584) (o := .cells #[.int .i64 t579, .int .i64 t580, .string t581, .int .u8 t582] 36 (0, 0)) (by apply_rules (transparency := .reducible) [BK584.1, bkN, bkD, bkA]) hb); have NB588_605 := aM ((by rw [hg]; exact Nat.ne_of_lt (IsS53.lt (show IsS53 w _ g588 t602 t603 t604 from by repeat (first | (with_reducible first | exact HI588.1 | apply IsS53.alloc | apply IsS53.drewN | apply IsS53.drew | apply IsS53.set_0 | apply IsS53.set_1 | apply IsS53.set_2 | refine IsS53.far ?_ NB588_577.1 _ | refine IsS53.far ?_ NB588_584.1 _) | exact HI588.1))) : g588 ≠ gb605)); have NB605_588 := aM ((by rw [hg]; exact Nat.ne_of_gt (IsS53.lt (show IsS53 w _ g588 t602 t603 t604 from by repeat (first | (with_reducible first | exact HI588.1 | apply IsS53.alloc | apply IsS53.drewN | apply IsS53.drew | apply IsS53.set_0 | apply IsS53.set_1 | apply IsS53.set_2 | refine IsS53.far ?_ NB588_577.1 _ | refine IsS53.far ?_ NB588_584.1 _) | exact HI588.1))) : gb605 ≠ g588)); replace HI588 := aM (IsS53.below (by repeat (first | (with_reducible first | exact HI588.1 | apply IsS53.alloc | apply IsS53.drewN | apply IsS53.drew | apply IsS53.set_0 | apply IsS53.set_1 | apply IsS53.set_2 | refine IsS53.far ?_ NB588_577.1 _ | refine IsS53.far ?_ NB588_584.1 _) | exact HI588.1)) hb); clear hb hbox hg; have hnb36 := NB605_577.1; have hnc36 := NB577_605.1; have hnb37 := NB605_584.1; have hnc37 := NB584_605.1; have hnb38 := NB605_588.1; have hnc38 := NB588_605.1; obtain ⟨z39_0, z39_1, z39_2, z39_3, z39_4, z39_5, z39_6, z39_7⟩ := bx4 BK605.1))
      go_ret
      exact ⟨rfl, by apply_rules (transparency := .reducible) [HB.1, bwA, bwN, bwD, bwS, (IsS53.ge HI588.1), GE577.1, GE584.1, GE605.1]⟩
     replace c32 := Bool.eq_false_iff.mpr c32
     subst c32
     replace H : (if (eqb36 t597 0 t598 0 t599 (⟨#[]⟩ : ByteArray) t600 0) = true then ((bind_Binder_Prefix.f t602 t603 t604).bind fun bt606 => (if bt606.1.toList = ([] : List UInt8) then (bodkinlaw19_BindCounts.l0 kj26 l1 (mn (wrap64 ((wrap64 (x10_2 * 10)) + (wrap64 (Int.tmod (rd l0 x43_2) 10)))) 1000) l0 (l0.length : Int) (wrap64 (x43_2 + 1)) a2_0 a2_1 a2_2 a2_3 a2_4 a2_5 t579 t580 t581 t582 bt606.2.1 bt606.2.2.1 bt606.2.2.2) else (some false))) else (some false)) = some r := by rw [if_neg (show ¬ (false = true) by decide)] at H; exact H
     by_cases c40 : (eqb36 t597 0 t598 0 t599 (⟨#[]⟩ : ByteArray) t600 0) = true
     ·rw [if_pos c40] at H
      have c40b0 : (eqb36 t597 0 t598 0 t599 (⟨#[]⟩ : ByteArray) t600 0) = true := c40
      clear c40
      replace H := Option.bind_eq_some_iff.mp H
      obtain ⟨⟨t606, t607, t608, t609⟩, A410, H⟩ := H
      replace H : (if t606.toList = ([] : List UInt8) then (bodkinlaw19_BindCounts.l0 kj26 l1 (mn (wrap64 ((wrap64 (x10_2 * 10)) + (wrap64 (Int.tmod (rd l0 x43_2) 10)))) 1000) l0 (l0.length : Int) (wrap64 (x43_2 + 1)) a2_0 a2_1 a2_2 a2_3 a2_4 a2_5 t579 t580 t581 t582 t607 t608 t609) else (some false)) = some r := H
      have A41 := aM A410
      clear A410
      by_cases c42 : t606.toList = ([] : List UInt8)
      ·rw [if_pos c42] at H
       have c42b0 : (t606.toList == ([] : List UInt8)) = true := beq_iff_eq.mpr c42
       have c42b1 : (t606.toList != ([] : List UInt8)) = false := bne_eq_false_iff_eq.mpr c42
       clear c42
       obtain ⟨ji43, hji43⟩ : ∃ j_ : Int, (mn (wrap64 ((wrap64 (x10_2 * 10)) + (wrap64 (Int.tmod (rd l0 x43_2) 10)))) 1000) = j_ := ⟨_, rfl⟩
       replace H : (bodkinlaw19_BindCounts.l0 kj26 l1 ji43 l0 (l0.length : Int) (wrap64 (x43_2 + 1)) a2_0 a2_1 a2_2 a2_3 a2_4 a2_5 t579 t580 t581 t582 t607 t608 t609) = some r := by first | (rw [hji43] at H; exact H) | (simp only [hji43] at H ⊢; exact H)
       (try rw [hji43] at A30)
       (try rw [hji43] at A31)
       (try rw [hji43] at A41)
       have hji43_ : (if 1000 < (wrap64 ((wrap64 (x10_2 * 10)) + (wrap64 (Int.tmod (rd l0 x43_2) 10)))) then 1000 else (wrap64 ((wrap64 (x10_2 * 10)) + (wrap64 (Int.tmod (rd l0 x43_2) 10))))) = ji43 := hji43
       have H' := aM H
       clear H
       go_wp2_with (first | ((with_reducible refine gate_callee (f := 15) rfl ?_); refine goesL_ (some 69) rfl rfl Try.func15 (by kernel_rfl) rfl #[.int .i32 (wrap32 (48 + (wrap32 (Int.tmod (rd l0 x43_2) 10)))), .bool x13_26] rfl (by (try simp only [List.map_toArray, List.map_cons, List.map_nil]); first | done | rfl) ?_; (with_reducible refine (bodkinlaw19_char.calls (wrap32 (48 + (wrap32 (Int.tmod (rd l0 x43_2) 10)))) x13_26 t591 t592 t593 t594 t595 t596 _ A30.1).mono ?_); rintro e w44 ⟨rfl, hb⟩; refine ⟨_, rfl, ?_⟩; replace BK577 := aM (bkB (g := gb577) (o := .cells #[.int .i64 a2_0, .int .i32 a2_1, .bool a2_2, .bool a2_3, .bool a2_4, .string a2_5] 25 (0, 0)) (by apply_rules (transparency := .reducible) [BK577.1, bkN, bkD, bkA]) hb); replace BK584 := aM (bkB (g := gb584) (o := .cells #[.int .i64 t579, .int .i64 t580, .string t581, .int .u8 t582] 36 (0, 0)) (by apply_rules (transparency := .reducible) [BK584.1, bkN, bkD, bkA]) hb); replace HB := aM (bwP (by apply_rules (transparency := .reducible) [HB.1, bwA, bwN, bwD, bwS, (IsS53.ge HI588.1), GE577.1, GE584.1]) hb); replace HI588 := aM (IsS53.below (by repeat (first | (with_reducible first | exact HI588.1 | apply IsS53.alloc | apply IsS53.drewN | apply IsS53.drew | apply IsS53.set_0 | apply IsS53.set_1 | apply IsS53.set_2 | refine IsS53.far ?_ NB588_577.1 _ | refine IsS53.far ?_ NB588_584.1 _) | exact HI588.1)) hb); (try clear hb); (try clear hb2); (try clear hk); (try clear hi)) | ((with_reducible refine gate_callee (f := 23) rfl ?_); refine goesL_ (some 70) rfl rfl Try.func23 (by kernel_rfl) rfl #[.pointer (some ⟨g588, 0, none⟩), .agg #[.int .i64 t591, .int .i32 t592, .bool t593, .bool t594, .bool t595, .string t596]] rfl (by (try simp only [List.map_toArray, List.map_cons, List.map_nil]); first | done | rfl) ?_; (with_reducible refine (bind_Binder_Key.calls kj26 g588 x589000_2 x589001_2 x589002_2 t591 t592 t593 t594 t595 t596 t597 t598 t599 t600 false t602 t603 t604 w _ ?side1 ?side2 A31.1).mono ?_); (case side1 => repeat (first | (with_reducible first | exact HI588.1 | apply IsS53.alloc | apply IsS53.drewN | apply IsS53.drew | apply IsS53.set_0 | apply IsS53.set_1 | apply IsS53.set_2 | refine IsS53.far ?_ NB588_577.1 _ | refine IsS53.far ?_ NB588_584.1 _) | exact HI588.1)); (case side2 => apply_rules (transparency := .reducible) [HB.1, bwA, bwN, bwD, bwS, (IsS53.ge HI588.1), GE577.1, GE584.1]); rintro e w45 ⟨rfl, hi, hb, hk⟩; refine ⟨_, rfl, ?_⟩; replace BK577 := aM (KeepBut.blk hk (g' := gb577) (o := .cells #[.int .i64 a2_0, .int .i32 a2_1, .bool a2_2, .bool a2_3, .bool a2_4, .string a2_5] 25 (0, 0)) (by apply_rules (transparency := .reducible) [BK577.1, bkN, bkD, bkA]) NB577_588.1 (by simp)); replace BK584 := aM (KeepBut.blk hk (g' := gb584) (o := .cells #[.int .i64 t579, .int .i64 t580, .string t581, .int .u8 t582] 36 (0, 0)) (by apply_rules (transparency := .reducible) [BK584.1, bkN, bkD, bkA]) NB584_588.1 (by simp)); replace HB := aM (hb); replace HI588 := aM (hi); (try clear hb); (try clear hb2); (try clear hk); (try clear hi)) | ((with_reducible refine gate_dst (N := 14) rfl ?_); (try (refine gate_guard (by rfl) ?_; dsimp only)); refine box_event ?hg (N := 14) ?hd (cs := #[.int .i64 0, .int .i64 0, .string (⟨#[]⟩ : ByteArray), .int .u8 0]) (t := 36) ?hr ?_; (case hd => rfl); (case hg => rfl); (case hr => first | (go_simp; done) | (go_simp; rfl)); intro gb605 hg w46 hbox hb; have BK605 := aM (hbox); have GW605 := aM ((by rw [hg]; exact (bwZ (by apply_rules (transparency := .reducible) [HB.1, bwA, bwN, bwD, bwS, (IsS53.ge HI588.1), GE577.1, GE584.1])) : w.heap.size ≤ gb605)); have GE605 := aM ((by rw [hg]; exact (bwZ (by apply_rules (transparency := .reducible) [HB.1, bwA, bwN, bwD, bwS, (IsS53.ge HI588.1), GE577.1, GE584.1])) : w.heap.size ≤ gb605)); replace HB := aM (bwP (by apply_rules (transparency := .reducible) [HB.1, bwA, bwN, bwD, bwS, (IsS53.ge HI588.1), GE577.1, GE584.1]) hb); have NB577_605 := aM ((by rw [hg]; exact Nat.ne_of_lt (bkL (g := gb577) (o := .cells #[.int .i64 a2_0, .int .i32 a2_1, .bool a2_2, .bool a2_3, .bool a2_4, .string a2_5] 25 (0, 0)) (by apply_rules (transparency := .reducible) [BK577.1, bkN, bkD, bkA])) : gb577 ≠ gb605)); have NB605_577 := aM ((by rw [hg]; exact Nat.ne_of_gt (bkL (g := gb577) (o := .cells #[.int .i64 a2_0, .int .i32 a2_1, .bool a2_2, .bool a2_3, .bool a2_4, .string a2_5] 25 (0, 0)) (by apply_rules (transparency := .reducible) [BK577.1, bkN, bkD, bkA])) : gb605 ≠ gb577)); replace BK577 := aM (bkB (g := gb577) (o := .cells #[.int .i64 a2_0, .int .i32 a2_1, .bool a2_2, .bool a2_3, .bool a2_4, .string a2_5] 25 (0, 0)) (by apply_rules (transparency := .reducible) [BK577.1, bkN, bkD, bkA]) hb); have NB584_605 := aM ((by rw [hg]; exact Nat.ne_of_lt (bkL (g := gb584) (o := .cells #[.int .i64 t579, .int .i64 t580, .string t581, .int .u8 t582] 36 (0, 0)) (by apply_rules (transparency := .reducible) [BK584.1, bkN, bkD, bkA])) : gb584 ≠ gb605)); have NB605_584 := aM ((by rw [hg]; exact Nat.ne_of_gt (bkL (g := gb584) (o := .cells #[.int .i64 t579, .int .i64 t580, .string t581, .int .u8 t582] 36 (0, 0)) (by apply_rules (transparency := .reducible) [BK584.1, bkN, bkD, bkA])) : gb605 ≠ gb584)); replace BK584 := aM (bkB (g := gb584) (o := .cells #[.int .i64 t579, .int .i64 t580, .string t581, .int .u8 t582] 36 (0, 0)) (by apply_rules (transparency := .reducible) [BK584.1, bkN, bkD, bkA]) hb); have NB588_605 := aM ((by rw [hg]; exact Nat.ne_of_lt (IsS53.lt (show IsS53 w _ g588 t602 t603 t604 from by repeat (first | (with_reducible first | exact HI588.1 | apply IsS53.alloc | apply IsS53.drewN | apply IsS53.drew | apply IsS53.set_0 | apply IsS53.set_1 | apply IsS53.set_2 | refine IsS53.far ?_ NB588_577.1 _ | refine IsS53.far ?_ NB588_584.1 _) | exact HI588.1))) : g588 ≠ gb605)); have NB605_588 := aM ((by rw [hg]; exact Nat.ne_of_gt (IsS53.lt (show IsS53 w _ g588 t602 t603 t604 from by repeat (first | (with_reducible first | exact HI588.1 | apply IsS53.alloc | apply IsS53.drewN | apply IsS53.drew | apply IsS53.set_0 | apply IsS53.set_1 | apply IsS53.set_2 | refine IsS53.far ?_ NB588_577.1 _ | refine IsS53.far ?_ NB588_584.1 _) | exact HI588.1))) : gb605 ≠ g588)); replace HI588 := aM (IsS53.below (by repeat (first | (with_reducible first | exact HI588.1 | apply IsS53.alloc | apply IsS53.drewN | apply IsS53.drew | apply IsS53.set_0 | apply IsS53.set_1 | apply IsS53.set_2 | refine IsS53.far ?_ NB588_577.1 _ | refine IsS53.far ?_ NB588_584.1 _) | exact HI588.1)) hb); clear hb hbox hg; have hnb47 := NB605_577.1; have hnc47 := NB577_605.1; have hnb48 := NB605_584.1; have hnc48 := NB584_605.1; have hnb49 := NB605_588.1; have hnc49 := NB588_605.1; obtain ⟨z50_0, z50_1, z50_2, z50_3, z50_4, z50_5, z50_6, z50_7⟩ := bx4 BK605.1) | (go_at_call 22; (with_reducible refine (bind_Binder_Prefix.calls g588 t602 t603 t604 t606 t607 t608 t609 w _ ?side1 ?side2 A41.1).mono ?_); (case side1 => repeat (first | (with_reducible first | exact HI588.1 | apply IsS53.alloc | apply IsS53.drewN | apply IsS53.drew | apply IsS53.set_0 | apply IsS53.set_1 | apply IsS53.set_2 | refine IsS53.far ?_ NB588_577.1 _ | refine IsS53.far ?_ NB588_584.1 _ | refine IsS53.far ?_ NB588_605.1 _) | exact HI588.1)); (case side2 => apply_rules (transparency := .reducible) [HB.1, bwA, bwN, bwD, bwS, (IsS53.ge HI588.1), GE577.1, GE584.1, GE605.1]); rintro e w51 ⟨rfl, hi, hb, hk⟩; replace BK577 := aM (KeepBut.blk hk (g' := gb577) (o := .cells #[.int .i64 a2_0, .int .i32 a2_1, .bool a2_2, .bool a2_3, .bool a2_4, .string a2_5] 25 (0, 0)) (by apply_rules (transparency := .reducible) [BK577.1, bkN, bkD, bkA, bkR, NB577_605.1]) NB577_588.1 (by simp)); replace BK584 := aM (KeepBut.blk hk (g' := gb584) (o := .cells #[.int .i64 t579, .int .i64 t580, .string t581, .int .u8 t582] 36 (0, 0)) (by apply_rules (transparency := .reducible) [BK584.1, bkN, bkD, bkA, bkR, NB584_605.1]) NB584_588.1 (by simp)); replace BK605 := aM (KeepBut.blk hk (g' := gb605) (o := .cells #[.int .i64 t597, .int .i64 t598, .string t599, .int .u8 t600] 36 (0, 0)) (by (with_reducible repeat first | apply bkN | apply bkD | apply bkA); refine put4 (cs := #[.int .i64 0, .int .i64 0, .string (⟨#[]⟩ : ByteArray), .int .u8 0]) ?_ rfl; (with_reducible repeat first | apply bkN | apply bkD | apply bkA); exact BK605.1) NB605_588.1 (by simp)); replace HB := aM (hb); replace HI588 := aM (hi); (try clear hb); (try clear hb2); (try clear hk); (try clear hi)))
       go_roundg kj26
       case measure => have := HJ6.1; have := HK2.out; have := HJ26.1; omega
       case rel => exact ⟨(ji43), (wrap64 (x43_2 + 1)), (t607), (t608), (t609), (by first | rfl | (simp; done) | (simp only [← hji43] <;> (first | rfl | simp)) | (simp [*]; done)), rfl, H', ⟨by have := HJ6.1; have := HK2.out; have := HJ26.1; omega⟩, ⟨by apply_rules (transparency := .reducible) [BK577.1, bkN, bkD, bkA]⟩, ⟨by apply_rules (transparency := .reducible) [BK584.1, bkN, bkD, bkA]⟩, ⟨by repeat (first | (with_reducible first | exact HI588.1 | apply IsS53.alloc | apply IsS53.drewN | apply IsS53.drew | apply IsS53.set_0 | apply IsS53.set_1 | apply IsS53.set_2 | refine IsS53.far ?_ NB588_577.1 _ | refine IsS53.far ?_ NB588_584.1 _ | refine IsS53.far ?_ NB588_605.1 _) | exact HI588.1)⟩, ⟨by apply_rules (transparency := .reducible) [HB.1, bwA, bwN, bwD, bwS, (IsS53.ge HI588.1), GE577.1, GE584.1, GE605.1]⟩⟩
      rw [if_neg c42] at H
      have c42b0 : (t606.toList == ([] : List UInt8)) = false := beq_eq_false_iff_ne.mpr c42
      have c42b1 : (t606.toList != ([] : List UInt8)) = true := bne_iff_ne.mpr c42
      obtain rfl := Option.some.inj H
      go_wp2_with (first | ((with_reducible refine gate_callee (f := 15) rfl ?_); refine goesL_ (some 69) rfl rfl Try.func15 (by kernel_rfl) rfl #[.int .i32 (wrap32 (48 + (wrap32 (Int.tmod (rd l0 x43_2) 10)))), .bool x13_26] rfl (by (try simp only [List.map_toArray, List.map_cons, List.map_nil]); first | done | rfl) ?_; (with_reducible refine (bodkinlaw19_char.calls (wrap32 (48 + (wrap32 (Int.tmod (rd l0 x43_2) 10)))) x13_26 t591 t592 t593 t594 t595 t596 _ A30.1).mono ?_); rintro e w52 ⟨rfl, hb⟩; refine ⟨_, rfl, ?_⟩; replace BK577 := aM (bkB (g := gb577) (o := .cells #[.int .i64 a2_0, .int .i32 a2_1, .bool a2_2, .bool a2_3, .bool a2_4, .string a2_5] 25 (0, 0)) (by apply_rules (transparency := .reducible) [BK577.1, bkN, bkD, bkA]) hb); replace BK584 := aM (bkB (g := gb584) (o := .cells #[.int .i64 t579, .int .i64 t580, .string t581, .int .u8 t582] 36 (0, 0)) (by apply_rules (transparency := .reducible) [BK584.1, bkN, bkD, bkA]) hb); replace HB := aM (bwP (by apply_rules (transparency := .reducible) [HB.1, bwA, bwN, bwD, bwS, (IsS53.ge HI588.1), GE577.1, GE584.1]) hb); replace HI588 := aM (IsS53.below (by repeat (first | (with_reducible first | exact HI588.1 | apply IsS53.alloc | apply IsS53.drewN | apply IsS53.drew | apply IsS53.set_0 | apply IsS53.set_1 | apply IsS53.set_2 | refine IsS53.far ?_ NB588_577.1 _ | refine IsS53.far ?_ NB588_584.1 _) | exact HI588.1)) hb); (try clear hb); (try clear hb2); (try clear hk); (try clear hi)) | ((with_reducible refine gate_callee (f := 23) rfl ?_); refine goesL_ (some 70) rfl rfl Try.func23 (by kernel_rfl) rfl #[.pointer (some ⟨g588, 0, none⟩), .agg #[.int .i64 t591, .int .i32 t592, .bool t593, .bool t594, .bool t595, .string t596]] rfl (by (try simp only [List.map_toArray, List.map_cons, List.map_nil]); first | done | rfl) ?_; (with_reducible refine (bind_Binder_Key.calls kj26 g588 x589000_2 x589001_2 x589002_2 t591 t592 t593 t594 t595 t596 t597 t598 t599 t600 false t602 t603 t604 w _ ?side1 ?side2 A31.1).mono ?_); (case side1 => repeat (first | (with_reducible first | exact HI588.1 | apply IsS53.alloc | apply IsS53.drewN | apply IsS53.drew | apply IsS53.set_0 | apply IsS53.set_1 | apply IsS53.set_2 | refine IsS53.far ?_ NB588_577.1 _ | refine IsS53.far ?_ NB588_584.1 _) | exact HI588.1)); (case side2 => apply_rules (transparency := .reducible) [HB.1, bwA, bwN, bwD, bwS, (IsS53.ge HI588.1), GE577.1, GE584.1]); rintro e w53 ⟨rfl, hi, hb, hk⟩; refine ⟨_, rfl, ?_⟩; replace BK577 := aM (KeepBut.blk hk (g' := gb577) (o := .cells #[.int .i64 a2_0, .int .i32 a2_1, .bool a2_2, .bool a2_3, .bool a2_4, .string a2_5] 25 (0, 0)) (by apply_rules (transparency := .reducible) [BK577.1, bkN, bkD, bkA]) NB577_588.1 (by simp)); replace BK584 := aM (KeepBut.blk hk (g' := gb584) (o := .cells #[.int .i64 t579, .int .i64 t580, .string t581, .int .u8 t582] 36 (0, 0)) (by apply_rules (transparency := .reducible) [BK584.1, bkN, bkD, bkA]) NB584_588.1 (by simp)); replace HB := aM (hb); replace HI588 := aM (hi); (try clear hb); (try clear hb2); (try clear hk); (try clear hi)) | ((with_reducible refine gate_dst (N := 14) rfl ?_); (try (refine gate_guard (by rfl) ?_; dsimp only)); refine box_event ?hg (N := 14) ?hd (cs := #[.int .i64 0, .int .i64 0, .string (⟨#[]⟩ : ByteArray), .int .u8 0]) (t := 36) ?hr ?_; (case hd => rfl); (case hg => rfl); (case hr => first | (go_simp; done) | (go_simp; rfl)); intro gb605 hg w54 hbox hb; have BK605 := aM (hbox); have GW605 := aM ((by rw [hg]; exact (bwZ (by apply_rules (transparency := .reducible) [HB.1, bwA, bwN, bwD, bwS, (IsS53.ge HI588.1), GE577.1, GE584.1])) : w.heap.size ≤ gb605)); have GE605 := aM ((by rw [hg]; exact (bwZ (by apply_rules (transparency := .reducible) [HB.1, bwA, bwN, bwD, bwS, (IsS53.ge HI588.1), GE577.1, GE584.1])) : w.heap.size ≤ gb605)); replace HB := aM (bwP (by apply_rules (transparency := .reducible) [HB.1, bwA, bwN, bwD, bwS, (IsS53.ge HI588.1), GE577.1, GE584.1]) hb); have NB577_605 := aM ((by rw [hg]; exact Nat.ne_of_lt (bkL (g := gb577) (o := .cells #[.int .i64 a2_0, .int .i32 a2_1, .bool a2_2, .bool a2_3, .bool a2_4, .string a2_5] 25 (0, 0)) (by apply_rules (transparency := .reducible) [BK577.1, bkN, bkD, bkA])) : gb577 ≠ gb605)); have NB605_577 := aM ((by rw [hg]; exact Nat.ne_of_gt (bkL (g := gb577) (o := .cells #[.int .i64 a2_0, .int .i32 a2_1, .bool a2_2, .bool a2_3, .bool a2_4, .string a2_5] 25 (0, 0)) (by apply_rules (transparency := .reducible) [BK577.1, bkN, bkD, bkA])) : gb605 ≠ gb577)); replace BK577 := aM (bkB (g := gb577) (o := .cells #[.int .i64 a2_0, .int .i32 a2_1, .bool a2_2, .bool a2_3, .bool a2_4, .string a2_5] 25 (0, 0)) (by apply_rules (transparency := .reducible) [BK577.1, bkN, bkD, bkA]) hb); have NB584_605 := aM ((by rw [hg]; exact Nat.ne_of_lt (bkL (g := gb584) (o := .cells #[.int .i64 t579, .int .i64 t580, .string t581, .int .u8 t582] 36 (0, 0)) (by apply_rules (transparency := .reducible) [BK584.1, bkN, bkD, bkA])) : gb584 ≠ gb605)); have NB605_584 := aM ((by rw [hg]; exact Nat.ne_of_gt (bkL (g := gb584) (o := .cells #[.int .i64 t579, .int .i64 t580, .string t581, .int .u8 t582] 36 (0, 0)) (by apply_rules (transparency := .reducible) [BK584.1, bkN, bkD, bkA])) : gb605 ≠ gb584)); replace BK584 := aM (bkB (g := gb584) (o := .cells #[.int .i64 t579, .int .i64 t580, .string t581, .int .u8 t582] 36 (0, 0)) (by apply_rules (transparency := .reducible) [BK584.1, bkN, bkD, bkA]) hb); have NB588_605 := aM ((by rw [hg]; exact Nat.ne_of_lt (IsS53.lt (show IsS53 w _ g588 t602 t603 t604 from by repeat (first | (with_reducible first | exact HI588.1 | apply IsS53.alloc | apply IsS53.drewN | apply IsS53.drew | apply IsS53.set_0 | apply IsS53.set_1 | apply IsS53.set_2 | refine IsS53.far ?_ NB588_577.1 _ | refine IsS53.far ?_ NB588_584.1 _) | exact HI588.1))) : g588 ≠ gb605)); have NB605_588 := aM ((by rw [hg]; exact Nat.ne_of_gt (IsS53.lt (show IsS53 w _ g588 t602 t603 t604 from by repeat (first | (with_reducible first | exact HI588.1 | apply IsS53.alloc | apply IsS53.drewN | apply IsS53.drew | apply IsS53.set_0 | apply IsS53.set_1 | apply IsS53.set_2 | refine IsS53.far ?_ NB588_577.1 _ | refine IsS53.far ?_ NB588_584.1 _) | exact HI588.1))) : gb605 ≠ g588)); replace HI588 := aM (IsS53.below (by repeat (first | (with_reducible first | exact HI588.1 | apply IsS53.alloc | apply IsS53.drewN | apply IsS53.drew | apply IsS53.set_0 | apply IsS53.set_1 | apply IsS53.set_2 | refine IsS53.far ?_ NB588_577.1 _ | refine IsS53.far ?_ NB588_584.1 _) | exact HI588.1)) hb); clear hb hbox hg; have hnb55 := NB605_577.1; have hnc55 := NB577_605.1; have hnb56 := NB605_584.1; have hnc56 := NB584_605.1; have hnb57 := NB605_588.1; have hnc57 := NB588_605.1; obtain ⟨z58_0, z58_1, z58_2, z58_3, z58_4, z58_5, z58_6, z58_7⟩ := bx4 BK605.1) | (go_at_call 22; (with_reducible refine (bind_Binder_Prefix.calls g588 t602 t603 t604 t606 t607 t608 t609 w _ ?side1 ?side2 A41.1).mono ?_); (case side1 => repeat (first | (with_reducible first | exact HI588.1 | apply IsS53.alloc | apply IsS53.drewN | apply IsS53.drew | apply IsS53.set_0 | apply IsS53.set_1 | apply IsS53.set_2 | refine IsS53.far ?_ NB588_577.1 _ | refine IsS53.far ?_ NB588_584.1 _ | refine IsS53.far ?_ NB588_605.1 _) | exact HI588.1)); (case side2 => apply_rules (transparency := .reducible) [HB.1, bwA, bwN, bwD, bwS, (IsS53.ge HI588.1), GE577.1, GE584.1, GE605.1]); rintro e w59 ⟨rfl, hi, hb, hk⟩; replace BK577 := aM (KeepBut.blk hk (g' := gb577) (o := .cells #[.int .i64 a2_0, .int .i32 a2_1, .bool a2_2, .bool a2_3, .bool a2_4, .string a2_5] 25 (0, 0)) (by apply_rules (transparency := .reducible) [BK577.1, bkN, bkD, bkA, bkR, NB577_605.1]) NB577_588.1 (by simp)); replace BK584 := aM (KeepBut.blk hk (g' := gb584) (o := .cells #[.int .i64 t579, .int .i64 t580, .string t581, .int .u8 t582] 36 (0, 0)) (by apply_rules (transparency := .reducible) [BK584.1, bkN, bkD, bkA, bkR, NB584_605.1]) NB584_588.1 (by simp)); replace BK605 := aM (KeepBut.blk hk (g' := gb605) (o := .cells #[.int .i64 t597, .int .i64 t598, .string t599, .int .u8 t600] 36 (0, 0)) (by (with_reducible repeat first | apply bkN | apply bkD | apply bkA); refine put4 (cs := #[.int .i64 0, .int .i64 0, .string (⟨#[]⟩ : ByteArray), .int .u8 0]) ?_ rfl; (with_reducible repeat first | apply bkN | apply bkD | apply bkA); exact BK605.1) NB605_588.1 (by simp)); replace HB := aM (hb); replace HI588 := aM (hi); (try clear hb); (try clear hb2); (try clear hk); (try clear hi)))
      go_ret
      exact ⟨rfl, by apply_rules (transparency := .reducible) [HB.1, bwA, bwN, bwD, bwS, (IsS53.ge HI588.1), GE577.1, GE584.1, GE605.1]⟩
     rw [if_neg c40] at H
     have c40b0 : (eqb36 t597 0 t598 0 t599 (⟨#[]⟩ : ByteArray) t600 0) = false := by simpa using c40
     clear c40
     obtain rfl := Option.some.inj H
     go_wp2_with (first | ((with_reducible refine gate_callee (f := 15) rfl ?_); refine goesL_ (some 69) rfl rfl Try.func15 (by kernel_rfl) rfl #[.int .i32 (wrap32 (48 + (wrap32 (Int.tmod (rd l0 x43_2) 10)))), .bool x13_26] rfl (by (try simp only [List.map_toArray, List.map_cons, List.map_nil]); first | done | rfl) ?_; (with_reducible refine (bodkinlaw19_char.calls (wrap32 (48 + (wrap32 (Int.tmod (rd l0 x43_2) 10)))) x13_26 t591 t592 t593 t594 t595 t596 _ A30.1).mono ?_); rintro e w60 ⟨rfl, hb⟩; refine ⟨_, rfl, ?_⟩; replace BK577 := aM (bkB (g := gb577) (o := .cells #[.int .i64 a2_0, .int .i32 a2_1, .bool a2_2, .bool a2_3, .bool a2_4, .string a2_5] 25 (0, 0)) (by apply_rules (transparency := .reducible) [BK577.1, bkN, bkD, bkA]) hb); replace BK584 := aM (bkB (g := gb584) (o := .cells #[.int .i64 t579, .int .i64 t580, .string t581, .int .u8 t582] 36 (0, 0)) (by apply_rules (transparency := .reducible) [BK584.1, bkN, bkD, bkA]) hb); replace HB := aM (bwP (by apply_rules (transparency := .reducible) [HB.1, bwA, bwN, bwD, bwS, (IsS53.ge HI588.1), GE577.1, GE584.1]) hb); replace HI588 := aM (IsS53.below (by repeat (first | (with_reducible first | exact HI588.1 | apply IsS53.alloc | apply IsS53.drewN | apply IsS53.drew | apply IsS53.set_0 | apply IsS53.set_1 | apply IsS53.set_2 | refine IsS53.far ?_ NB588_577.1 _ | refine IsS53.far ?_ NB588_584.1 _) | exact HI588.1)) hb); (try clear hb); (try clear hb2); (try clear hk); (try clear hi)) | ((with_reducible refine gate_callee (f := 23) rfl ?_); refine goesL_ (some 70) rfl rfl Try.func23 (by kernel_rfl) rfl #[.pointer (some ⟨g588, 0, none⟩), .agg #[.int .i64 t591, .int .i32 t592, .bool t593, .bool t594, .bool t595, .string t596]] rfl (by (try simp only [List.map_toArray, List.map_cons, List.map_nil]); first | done | rfl) ?_; (with_reducible refine (bind_Binder_Key.calls kj26 g588 x589000_2 x589001_2 x589002_2 t591 t592 t593 t594 t595 t596 t597 t598 t599 t600 false t602 t603 t604 w _ ?side1 ?side2 A31.1).mono ?_); (case side1 => repeat (first | (with_reducible first | exact HI588.1 | apply IsS53.alloc | apply IsS53.drewN | apply IsS53.drew | apply IsS53.set_0 | apply IsS53.set_1 | apply IsS53.set_2 | refine IsS53.far ?_ NB588_577.1 _ | refine IsS53.far ?_ NB588_584.1 _) | exact HI588.1)); (case side2 => apply_rules (transparency := .reducible) [HB.1, bwA, bwN, bwD, bwS, (IsS53.ge HI588.1), GE577.1, GE584.1]); rintro e w61 ⟨rfl, hi, hb, hk⟩; refine ⟨_, rfl, ?_⟩; replace BK577 := aM (KeepBut.blk hk (g' := gb577) (o := .cells #[.int .i64 a2_0, .int .i32 a2_1, .bool a2_2, .bool a2_3, .bool a2_4, .string a2_5] 25 (0, 0)) (by apply_rules (transparency := .reducible) [BK577.1, bkN, bkD, bkA]) NB577_588.1 (by simp)); replace BK584 := aM (KeepBut.blk hk (g' := gb584) (o := .cells #[.int .i64 t579, .int .i64 t580, .string t581, .int .u8 t582] 36 (0, 0)) (by apply_rules (transparency := .reducible) [BK584.1, bkN, bkD, bkA]) NB584_588.1 (by simp)); replace HB := aM (hb); replace HI588 := aM (hi); (try clear hb); (try clear hb2); (try clear hk); (try clear hi)) | ((with_reducible refine gate_dst (N := 14) rfl ?_); (try (refine gate_guard (by rfl) ?_; dsimp only)); refine box_event ?hg (N := 14) ?hd (cs := #[.int .i64 0, .int .i64 0, .string (⟨#[]⟩ : ByteArray), .int .u8 0]) (t := 36) ?hr ?_; (case hd => rfl); (case hg => rfl); (case hr => first | (go_simp; done) | (go_simp; rfl)); intro gb605 hg w62 hbox hb; have BK605 := aM (hbox); have GW605 := aM ((by rw [hg]; exact (bwZ (by apply_rules (transparency := .reducible) [HB.1, bwA, bwN, bwD, bwS, (IsS53.ge HI588.1), GE577.1, GE584.1])) : w.heap.size ≤ gb605)); have GE605 := aM ((by rw [hg]; exact (bwZ (by apply_rules (transparency := .reducible) [HB.1, bwA, bwN, bwD, bwS, (IsS53.ge HI588.1), GE577.1, GE584.1])) : w.heap.size ≤ gb605)); replace HB := aM (bwP (by apply_rules (transparency := .reducible) [HB.1, bwA, bwN, bwD, bwS, (IsS53.ge HI588.1), GE577.1, GE584.1]) hb); have NB577_605 := aM ((by rw [hg]; exact Nat.ne_of_lt (bkL (g := gb577) (o := .cells #[.int .i64 a2_0, .int .i32 a2_1, .bool a2_2, .bool a2_3, .bool a2_4, .string a2_5] 25 (0, 0)) (by apply_rules (transparency := .reducible) [BK577.1, bkN, bkD, bkA])) : gb577 ≠ gb605)); have NB605_577 := aM ((by rw [hg]; exact Nat.ne_of_gt (bkL (g := gb577) (o := .cells #[.int .i64 a2_0, .int .i32 a2_1, .bool a2_2, .bool a2_3, .bool a2_4, .string a2_5] 25 (0, 0)) (by apply_rules (transparency := .reducible) [BK577.1, bkN, bkD, bkA])) : gb605 ≠ gb577)); replace BK577 := aM (bkB (g := gb577) (o := .cells #[.int .i64 a2_0, .int .i32 a2_1, .bool a2_2, .bool a2_3, .bool a2_4, .string a2_5] 25 (0, 0)) (by apply_rules (transparency := .reducible) [BK577.1, bkN, bkD, bkA]) hb); have NB584_605 := aM ((by rw [hg]; exact Nat.ne_of_lt (bkL (g := gb584) (o := .cells #[.int .i64 t579, .int .i64 t580, .string t581, .int .u8 t582] 36 (0, 0)) (by apply_rules (transparency := .reducible) [BK584.1, bkN, bkD, bkA])) : gb584 ≠ gb605)); have NB605_584 := aM ((by rw [hg]; exact Nat.ne_of_gt (bkL (g := gb584) (o := .cells #[.int .i64 t579, .int .i64 t580, .string t581, .int .u8 t582] 36 (0, 0)) (by apply_rules (transparency := .reducible) [BK584.1, bkN, bkD, bkA])) : gb605 ≠ gb584)); replace BK584 := aM (bkB (g := gb584) (o := .cells #[.int .i64 t579, .int .i64 t580, .string t581, .int .u8 t582] 36 (0, 0)) (by apply_rules (transparency := .reducible) [BK584.1, bkN, bkD, bkA]) hb); have NB588_605 := aM ((by rw [hg]; exact Nat.ne_of_lt (IsS53.lt (show IsS53 w _ g588 t602 t603 t604 from by repeat (first | (with_reducible first | exact HI588.1 | apply IsS53.alloc | apply IsS53.drewN | apply IsS53.drew | apply IsS53.set_0 | apply IsS53.set_1 | apply IsS53.set_2 | refine IsS53.far ?_ NB588_577.1 _ | refine IsS53.far ?_ NB588_584.1 _) | exact HI588.1))) : g588 ≠ gb605)); have NB605_588 := aM ((by rw [hg]; exact Nat.ne_of_gt (IsS53.lt (show IsS53 w _ g588 t602 t603 t604 from by repeat (first | (with_reducible first | exact HI588.1 | apply IsS53.alloc | apply IsS53.drewN | apply IsS53.drew | apply IsS53.set_0 | apply IsS53.set_1 | apply IsS53.set_2 | refine IsS53.far ?_ NB588_577.1 _ | refine IsS53.far ?_ NB588_584.1 _) | exact HI588.1))) : gb605 ≠ g588)); replace HI588 := aM (IsS53.below (by repeat (first | (with_reducible first | exact HI588.1 | apply IsS53.alloc | apply IsS53.drewN | apply IsS53.drew | apply IsS53.set_0 | apply IsS53.set_1 | apply IsS53.set_2 | refine IsS53.far ?_ NB588_577.1 _ | refine IsS53.far ?_ NB588_584.1 _) | exact HI588.1)) hb); clear hb hbox hg; have hnb63 := NB605_577.1; have hnc63 := NB577_605.1; have hnb64 := NB605_584.1; have hnc64 := NB584_605.1; have hnb65 := NB605_588.1; have hnc65 := NB588_605.1; obtain ⟨z66_0, z66_1, z66_2, z66_3, z66_4, z66_5, z66_6, z66_7⟩ := bx4 BK605.1))
     go_ret
     exact ⟨rfl, by apply_rules (transparency := .reducible) [HB.1, bwA, bwN, bwD, bwS, (IsS53.ge HI588.1), GE577.1, GE584.1, GE605.1]⟩
    rw [if_neg c26] at H
    exact absurd H (by simp)
   rw [if_neg c25] at H
   exact absurd H (by simp)
  rw [if_neg c24] at H
  have c24b0 : decide (x43_2 < (l0.length : Int)) = false := decide_eq_false c24
  clear c24
  obtain ⟨ji67, hji67⟩ : ∃ j_ : Int, (mx x10_2 1) = j_ := ⟨_, rfl⟩
  replace H : ((bind_Binder_Count.f x589000_2 x589001_2 x589002_2).bind fun bt610 => (if bt610.1 = (ji67) then (bodkinlaw19_BindCounts.j3 k2 ji67 (!bt610.2.1) a2_0 a2_1 a2_2 a2_3 a2_4 a2_5 t579 t580 t581 t582 bt610.2.2.1 bt610.2.2.2.1 bt610.2.2.2.2) else (bodkinlaw19_BindCounts.j3 k2 ji67 true a2_0 a2_1 a2_2 a2_3 a2_4 a2_5 t579 t580 t581 t582 bt610.2.2.1 bt610.2.2.2.1 bt610.2.2.2.2))) = some r := by first | (rw [hji67] at H; exact H) | (simp only [hji67] at H ⊢; exact H)
  have hji67_ : (if x10_2 < 1 then 1 else x10_2) = ji67 := hji67
  replace H := Option.bind_eq_some_iff.mp H
  obtain ⟨⟨t610, t611, t612, t613, t614⟩, A680, H⟩ := H
  replace H : (if t610 = (ji67) then (bodkinlaw19_BindCounts.j3 k2 ji67 (!t611) a2_0 a2_1 a2_2 a2_3 a2_4 a2_5 t579 t580 t581 t582 t612 t613 t614) else (bodkinlaw19_BindCounts.j3 k2 ji67 true a2_0 a2_1 a2_2 a2_3 a2_4 a2_5 t579 t580 t581 t582 t612 t613 t614)) = some r := H
  have A68 := aM A680
  clear A680
  have HC69 := aM H
  clear H
  go_upto_region 19 with (first | ((with_reducible refine gate_callee (f := 24) rfl ?_); refine goesL_ (some 96) rfl rfl Try.func24 (by kernel_rfl) rfl #[.pointer (some ⟨g588, 0, none⟩)] rfl (by (try simp only [List.map_toArray, List.map_cons, List.map_nil]); first | done | rfl) ?_; (with_reducible refine (bind_Binder_Count.calls g588 x589000_2 x589001_2 x589002_2 t610 t611 t612 t613 t614 w _ ?side1 ?side2 A68.1).mono ?_); (case side1 => repeat (first | (with_reducible first | exact HI588.1 | apply IsS53.alloc | apply IsS53.drewN | apply IsS53.drew | apply IsS53.set_0 | apply IsS53.set_1 | apply IsS53.set_2 | refine IsS53.far ?_ NB588_577.1 _ | refine IsS53.far ?_ NB588_584.1 _) | exact HI588.1)); (case side2 => apply_rules (transparency := .reducible) [HB.1, bwA, bwN, bwD, bwS, (IsS53.ge HI588.1), GE577.1, GE584.1]); rintro e w70 ⟨rfl, hi, hb, hk⟩; refine ⟨_, rfl, ?_⟩; replace BK577 := aM (KeepBut.blk hk (g' := gb577) (o := .cells #[.int .i64 a2_0, .int .i32 a2_1, .bool a2_2, .bool a2_3, .bool a2_4, .string a2_5] 25 (0, 0)) (by apply_rules (transparency := .reducible) [BK577.1, bkN, bkD, bkA]) NB577_588.1 (by simp)); replace BK584 := aM (KeepBut.blk hk (g' := gb584) (o := .cells #[.int .i64 t579, .int .i64 t580, .string t581, .int .u8 t582] 36 (0, 0)) (by apply_rules (transparency := .reducible) [BK584.1, bkN, bkD, bkA]) NB584_588.1 (by simp)); replace HB := aM (hb); replace HI588 := aM (hi); (try clear hb); (try clear hb2); (try clear hk); (try clear hi)))
  (try simp only [Act.put, List.setIfInBounds_toArray, List.set_cons_zero, List.set_cons_succ])
  go_cut [105] (fun v105 wc => ∃ (kq : Nat) (x105_68 : Bool), v105 = .bool x105_68 ∧ Aside0 (bodkinlaw19_BindCounts.j3 kq ji67 x105_68 a2_0 a2_1 a2_2 a2_3 a2_4 a2_5 t579 t580 t581 t582 t612 t613 t614 = some r) ∧ Aside0 (kq ≤ k2) ∧ Aside0 (wc.heap[gb577]? = some (.cells #[.int .i64 a2_0, .int .i32 a2_1, .bool a2_2, .bool a2_3, .bool a2_4, .string a2_5] 25 (0, 0))) ∧ Aside0 (wc.heap[gb584]? = some (.cells #[.int .i64 t579, .int .i64 t580, .string t581, .int .u8 t582] 36 (0, 0))) ∧ Aside0 (IsS53 w wc g588 t612 t613 t614) ∧ Aside0 (Below w.heap.size w wc))
  case first =>
   have H := HC69.1
   clear HC69
   by_cases c71 : t610 = (ji67)
   ·rw [if_pos c71] at H
    have c71b0 : (t610 == (ji67)) = true := beq_iff_eq.mpr c71
    have c71b1 : (t610 != (ji67)) = false := bne_eq_false_iff_eq.mpr c71
    clear c71
    (first | rw [c71b0] | (simp only [i64_w, i32_w]; rw [c71b0]) | skip)
    have H' := aM H
    clear H
    go_wp2
    go_meet
    case rel => exact ⟨_, (!t611), rfl, H', ⟨by have := HJ6.1; have := HK2.out; first | omega | exact Nat.le_refl _⟩, ⟨by apply_rules (transparency := .reducible) [BK577.1, bkN, bkD, bkA]⟩, ⟨by apply_rules (transparency := .reducible) [BK584.1, bkN, bkD, bkA]⟩, ⟨by repeat (first | (with_reducible first | exact HI588.1 | apply IsS53.alloc | apply IsS53.drewN | apply IsS53.drew | apply IsS53.set_0 | apply IsS53.set_1 | apply IsS53.set_2 | refine IsS53.far ?_ NB588_577.1 _ | refine IsS53.far ?_ NB588_584.1 _) | exact HI588.1)⟩, ⟨by apply_rules (transparency := .reducible) [HB.1, bwA, bwN, bwD, bwS, (IsS53.ge HI588.1), GE577.1, GE584.1]⟩⟩
   rw [if_neg c71] at H
   have c71b0 : (t610 == (ji67)) = false := beq_eq_false_iff_ne.mpr c71
   have c71b1 : (t610 != (ji67)) = true := bne_iff_ne.mpr c71
   (first | rw [c71b0] | (simp only [i64_w, i32_w]; rw [c71b0]) | skip)
   have H' := aM H
   clear H
   go_wp2
   go_meet
   case rel => exact ⟨_, (true), rfl, H', ⟨by have := HJ6.1; have := HK2.out; first | omega | exact Nat.le_refl _⟩, ⟨by apply_rules (transparency := .reducible) [BK577.1, bkN, bkD, bkA]⟩, ⟨by apply_rules (transparency := .reducible) [BK584.1, bkN, bkD, bkA]⟩, ⟨by repeat (first | (with_reducible first | exact HI588.1 | apply IsS53.alloc | apply IsS53.drewN | apply IsS53.drew | apply IsS53.set_0 | apply IsS53.set_1 | apply IsS53.set_2 | refine IsS53.far ?_ NB588_577.1 _ | refine IsS53.far ?_ NB588_584.1 _) | exact HI588.1)⟩, ⟨by apply_rules (transparency := .reducible) [HB.1, bwA, bwN, bwD, bwS, (IsS53.ge HI588.1), GE577.1, GE584.1]⟩⟩
  clear HC69
  try clear c1
  try clear c5
  try clear c21
  try clear c24
  try clear c24b0
  try clear z10_0 z10_1 z10_2 z10_3 z10_4 z10_5 z10_6 z10_7 z10_8 z10_9 z10_10 z10_11
  try clear z14_0 z14_1 z14_2 z14_3 z14_4 z14_5 z14_6 z14_7
  obtain ⟨kq, x105_68, rfl, HA, HJ68, BK577, BK584, HI588, HB⟩ := hcut
  obtain _ | kj68 := kq
  ·exact absurd HA.1 (by simp [bodkinlaw19_BindCounts.j3])
  have H := HA.1
  clear HA
  simp only [bodkinlaw19_BindCounts.j3] at H
  by_cases c72 : x105_68 = true
  ·subst c72
   replace H : (some false) = some r := by rw [if_pos rfl] at H; exact H
   obtain rfl := Option.some.inj H
   go_wp2
   go_ret
   exact ⟨by first | rfl | (simp [errW_none, errW_some] <;> rfl) | (simp only [← hji67]; first | rfl | (simp [errW_none, errW_some] <;> rfl)) | (simp [*, errW_none, errW_some] <;> rfl), by apply_rules (transparency := .reducible) [HB.1, bwA, bwN, bwD, bwS, (IsS53.ge HI588.1), GE577.1, GE584.1]⟩
  replace c72 := Bool.eq_false_iff.mpr c72
  subst c72
  replace H : (if a2_0 = 1 then (if a2_2 = true then (bodkinlaw19_BindCounts.j4 kj68 ji67 false a2_0 a2_1 a2_2 a2_3 a2_4 a2_5 t579 t580 t581 t582 t612 t613 t614) else (if a2_1 ≥ 48 then (bodkinlaw19_BindCounts.j4 kj68 ji67 (decide (a2_1 ≤ 57)) a2_0 a2_1 a2_2 a2_3 a2_4 a2_5 t579 t580 t581 t582 t612 t613 t614) else (bodkinlaw19_BindCounts.j4 kj68 ji67 false a2_0 a2_1 a2_2 a2_3 a2_4 a2_5 t579 t580 t581 t582 t612 t613 t614))) else (bodkinlaw19_BindCounts.j4 kj68 ji67 false a2_0 a2_1 a2_2 a2_3 a2_4 a2_5 t579 t580 t581 t582 t612 t613 t614)) = some r := by rw [if_neg (show ¬ (false = true) by decide)] at H; exact H
  have HC73 := aM H
  clear H
  go_upto_region 21 with (fail)
  go_cut [123] (fun v123 wc => ∃ (kq : Nat) (x123_72 : Bool), v123 = .bool x123_72 ∧ Aside0 (bodkinlaw19_BindCounts.j4 kq ji67 x123_72 a2_0 a2_1 a2_2 a2_3 a2_4 a2_5 t579 t580 t581 t582 t612 t613 t614 = some r) ∧ Aside0 (kq ≤ kj68) ∧ Aside0 (wc.heap[gb577]? = some (.cells #[.int .i64 a2_0, .int .i32 a2_1, .bool a2_2, .bool a2_3, .bool a2_4, .string a2_5] 25 (0, 0))) ∧ Aside0 (wc.heap[gb584]? = some (.cells #[.int .i64 t579, .int .i64 t580, .string t581, .int .u8 t582] 36 (0, 0))) ∧ Aside0 (IsS53 w wc g588 t612 t613 t614) ∧ Aside0 (Below w.heap.size w wc))
  case first =>
   have H := HC73.1
   clear HC73
   by_cases c74 : a2_0 = 1
   ·rw [if_pos c74] at H
    have c74b0 : (a2_0 == 1) = true := beq_iff_eq.mpr c74
    have c74b1 : (a2_0 != 1) = false := bne_eq_false_iff_eq.mpr c74
    clear c74
    (first | rw [c74b0] | (simp only [i64_w, i32_w]; rw [c74b0]) | skip)
    by_cases c75 : a2_2 = true
    ·subst c75
     replace H : (bodkinlaw19_BindCounts.j4 kj68 ji67 false a2_0 a2_1 true a2_3 a2_4 a2_5 t579 t580 t581 t582 t612 t613 t614) = some r := by rw [if_pos rfl] at H; exact H
     have H' := aM H
     clear H
     have hnb76 := NB577_584.1
     have hnc76 := NB584_577.1
     have hnb77 := NB577_588.1
     have hnc77 := NB588_577.1
     obtain ⟨z78_0, z78_1, z78_2, z78_3, z78_4, z78_5, z78_6, z78_7, z78_8, z78_9, z78_10, z78_11⟩ := bx6 BK577.1
     go_wp2
     go_meet
     case rel => exact ⟨_, (false), rfl, H', ⟨by have := HJ6.1; have := HK2.out; have := HJ68.1; first | omega | exact Nat.le_refl _⟩, ⟨by apply_rules (transparency := .reducible) [BK577.1, bkN, bkD, bkA]⟩, ⟨by apply_rules (transparency := .reducible) [BK584.1, bkN, bkD, bkA]⟩, ⟨by repeat (first | (with_reducible first | exact HI588.1 | apply IsS53.alloc | apply IsS53.drewN | apply IsS53.drew | apply IsS53.set_0 | apply IsS53.set_1 | apply IsS53.set_2 | refine IsS53.far ?_ NB588_577.1 _ | refine IsS53.far ?_ NB588_584.1 _) | exact HI588.1)⟩, ⟨by apply_rules (transparency := .reducible) [HB.1, bwA, bwN, bwD, bwS, (IsS53.ge HI588.1), GE577.1, GE584.1]⟩⟩
    replace c75 := Bool.eq_false_iff.mpr c75
    subst c75
    replace H : (if a2_1 ≥ 48 then (bodkinlaw19_BindCounts.j4 kj68 ji67 (decide (a2_1 ≤ 57)) a2_0 a2_1 false a2_3 a2_4 a2_5 t579 t580 t581 t582 t612 t613 t614) else (bodkinlaw19_BindCounts.j4 kj68 ji67 false a2_0 a2_1 false a2_3 a2_4 a2_5 t579 t580 t581 t582 t612 t613 t614)) = some r := by rw [if_neg (show ¬ (false = true) by decide)] at H; exact H
    by_cases c79 : a2_1 ≥ 48
    ·rw [if_pos c79] at H
     have c79b0 : decide (48 ≤ a2_1) = true := decide_eq_true c79
     clear c79
     have H' := aM H
     clear H
     have hnb80 := NB577_584.1
     have hnc80 := NB584_577.1
     have hnb81 := NB577_588.1
     have hnc81 := NB588_577.1
     obtain ⟨z82_0, z82_1, z82_2, z82_3, z82_4, z82_5, z82_6, z82_7, z82_8, z82_9, z82_10, z82_11⟩ := bx6 BK577.1
     go_wp2
     go_meet
     case rel => exact ⟨_, (decide (a2_1 ≤ 57)), rfl, H', ⟨by have := HJ6.1; have := HK2.out; have := HJ68.1; first | omega | exact Nat.le_refl _⟩, ⟨by apply_rules (transparency := .reducible) [BK577.1, bkN, bkD, bkA]⟩, ⟨by apply_rules (transparency := .reducible) [BK584.1, bkN, bkD, bkA]⟩, ⟨by repeat (first | (with_reducible first | exact HI588.1 | apply IsS53.alloc | apply IsS53.drewN | apply IsS53.drew | apply IsS53.set_0 | apply IsS53.set_1 | apply IsS53.set_2 | refine IsS53.far ?_ NB588_577.1 _ | refine IsS53.far ?_ NB588_584.1 _) | exact HI588.1)⟩, ⟨by apply_rules (transparency := .reducible) [HB.1, bwA, bwN, bwD, bwS, (IsS53.ge HI588.1), GE577.1, GE584.1]⟩⟩
    rw [if_neg c79] at H
    have c79b0 : decide (48 ≤ a2_1) = false := decide_eq_false c79
    clear c79
    have H' := aM H
    clear H
    have hnb83 := NB577_584.1
    have hnc83 := NB584_577.1
    have hnb84 := NB577_588.1
    have hnc84 := NB588_577.1
    obtain ⟨z85_0, z85_1, z85_2, z85_3, z85_4, z85_5, z85_6, z85_7, z85_8, z85_9, z85_10, z85_11⟩ := bx6 BK577.1
    go_wp2
    go_meet
    case rel => exact ⟨_, (false), rfl, H', ⟨by have := HJ6.1; have := HK2.out; have := HJ68.1; first | omega | exact Nat.le_refl _⟩, ⟨by apply_rules (transparency := .reducible) [BK577.1, bkN, bkD, bkA]⟩, ⟨by apply_rules (transparency := .reducible) [BK584.1, bkN, bkD, bkA]⟩, ⟨by repeat (first | (with_reducible first | exact HI588.1 | apply IsS53.alloc | apply IsS53.drewN | apply IsS53.drew | apply IsS53.set_0 | apply IsS53.set_1 | apply IsS53.set_2 | refine IsS53.far ?_ NB588_577.1 _ | refine IsS53.far ?_ NB588_584.1 _) | exact HI588.1)⟩, ⟨by apply_rules (transparency := .reducible) [HB.1, bwA, bwN, bwD, bwS, (IsS53.ge HI588.1), GE577.1, GE584.1]⟩⟩
   rw [if_neg c74] at H
   have c74b0 : (a2_0 == 1) = false := beq_eq_false_iff_ne.mpr c74
   have c74b1 : (a2_0 != 1) = true := bne_iff_ne.mpr c74
   (first | rw [c74b0] | (simp only [i64_w, i32_w]; rw [c74b0]) | skip)
   have H' := aM H
   clear H
   have hnb86 := NB577_584.1
   have hnc86 := NB584_577.1
   have hnb87 := NB577_588.1
   have hnc87 := NB588_577.1
   obtain ⟨z88_0, z88_1, z88_2, z88_3, z88_4, z88_5, z88_6, z88_7, z88_8, z88_9, z88_10, z88_11⟩ := bx6 BK577.1
   go_wp2
   go_meet
   case rel => exact ⟨_, (false), rfl, H', ⟨by have := HJ6.1; have := HK2.out; have := HJ68.1; first | omega | exact Nat.le_refl _⟩, ⟨by apply_rules (transparency := .reducible) [BK577.1, bkN, bkD, bkA]⟩, ⟨by apply_rules (transparency := .reducible) [BK584.1, bkN, bkD, bkA]⟩, ⟨by repeat (first | (with_reducible first | exact HI588.1 | apply IsS53.alloc | apply IsS53.drewN | apply IsS53.drew | apply IsS53.set_0 | apply IsS53.set_1 | apply IsS53.set_2 | refine IsS53.far ?_ NB588_577.1 _ | refine IsS53.far ?_ NB588_584.1 _) | exact HI588.1)⟩, ⟨by apply_rules (transparency := .reducible) [HB.1, bwA, bwN, bwD, bwS, (IsS53.ge HI588.1), GE577.1, GE584.1]⟩⟩
  clear HC73
  try clear c1
  try clear c5
  try clear c21
  try clear c24
  try clear c24b0
  try clear c72
  try clear z10_0 z10_1 z10_2 z10_3 z10_4 z10_5 z10_6 z10_7 z10_8 z10_9 z10_10 z10_11
  try clear z14_0 z14_1 z14_2 z14_3 z14_4 z14_5 z14_6 z14_7
  obtain ⟨kq, x123_72, rfl, HA, HJ72, BK577, BK584, HI588, HB⟩ := hcut
  obtain _ | kj72 := kq
  ·exact absurd HA.1 (by simp [bodkinlaw19_BindCounts.j4])
  have H := HA.1
  clear HA
  simp only [bodkinlaw19_BindCounts.j4] at H
  by_cases c89 : x123_72 = true
  ·subst c89
   replace H : (some true) = some r := by rw [if_pos rfl] at H; exact H
   obtain rfl := Option.some.inj H
   go_wp2
   go_ret
   exact ⟨by first | rfl | (simp [errW_none, errW_some] <;> rfl) | (simp only [← hji67]; first | rfl | (simp [errW_none, errW_some] <;> rfl)) | (simp [*, errW_none, errW_some] <;> rfl), by apply_rules (transparency := .reducible) [HB.1, bwA, bwN, bwD, bwS, (IsS53.ge HI588.1), GE577.1, GE584.1]⟩
  replace c89 := Bool.eq_false_iff.mpr c89
  subst c89
  replace H : ((bind_Binder_Key.f kj72 t612 t613 t614 a2_0 a2_1 a2_2 a2_3 a2_4 a2_5).bind fun bt615 => (if bt615.2.2.2.2.1 = true then (bodkinlaw19_BindCounts.j5 kj72 (!(eqb36 bt615.1 t579 bt615.2.1 ji67 bt615.2.2.1 t581 bt615.2.2.2.1 t582)) a2_0 a2_1 a2_2 a2_3 a2_4 a2_5 t579 ji67 t581 t582 bt615.2.2.2.2.2.1 bt615.2.2.2.2.2.2.1 bt615.2.2.2.2.2.2.2) else (bodkinlaw19_BindCounts.j5 kj72 true a2_0 a2_1 a2_2 a2_3 a2_4 a2_5 t579 ji67 t581 t582 bt615.2.2.2.2.2.1 bt615.2.2.2.2.2.2.1 bt615.2.2.2.2.2.2.2))) = some r := by rw [if_neg (show ¬ (false = true) by decide)] at H; exact H
  replace H := Option.bind_eq_some_iff.mp H
  obtain ⟨⟨t615, t616, t617, t618, t619, t620, t621, t622⟩, A900, H⟩ := H
  replace H : (if t619 = true then (bodkinlaw19_BindCounts.j5 kj72 (!(eqb36 t615 t579 t616 ji67 t617 t581 t618 t582)) a2_0 a2_1 a2_2 a2_3 a2_4 a2_5 t579 ji67 t581 t582 t620 t621 t622) else (bodkinlaw19_BindCounts.j5 kj72 true a2_0 a2_1 a2_2 a2_3 a2_4 a2_5 t579 ji67 t581 t582 t620 t621 t622)) = some r := H
  have A90 := aM A900
  clear A900
  have HC91 := aM H
  clear H
  have hnb92 := NB577_584.1
  have hnc92 := NB584_577.1
  have hnb93 := NB577_588.1
  have hnc93 := NB588_577.1
  obtain ⟨z94_0, z94_1, z94_2, z94_3, z94_4, z94_5, z94_6, z94_7, z94_8, z94_9, z94_10, z94_11⟩ := bx6 BK577.1
  go_upto_region 25 with (first | ((with_reducible refine gate_callee (f := 23) rfl ?_); refine goesL_ (some 127) rfl rfl Try.func23 (by kernel_rfl) rfl #[.pointer (some ⟨g588, 0, none⟩), .agg #[.int .i64 a2_0, .int .i32 a2_1, .bool a2_2, .bool a2_3, .bool a2_4, .string a2_5]] rfl (by (try simp only [List.map_toArray, List.map_cons, List.map_nil]); first | done | rfl) ?_; (with_reducible refine (bind_Binder_Key.calls kj72 g588 t612 t613 t614 a2_0 a2_1 a2_2 a2_3 a2_4 a2_5 t615 t616 t617 t618 t619 t620 t621 t622 w _ ?side1 ?side2 A90.1).mono ?_); (case side1 => repeat (first | (with_reducible first | exact HI588.1 | apply IsS53.alloc | apply IsS53.drewN | apply IsS53.drew | apply IsS53.set_0 | apply IsS53.set_1 | apply IsS53.set_2 | refine IsS53.far ?_ NB588_577.1 _ | refine IsS53.far ?_ NB588_584.1 _) | exact HI588.1)); (case side2 => apply_rules (transparency := .reducible) [HB.1, bwA, bwN, bwD, bwS, (IsS53.ge HI588.1), GE577.1, GE584.1]); rintro e w95 ⟨rfl, hi, hb, hk⟩; refine ⟨_, rfl, ?_⟩; replace BK577 := aM (KeepBut.blk hk (g' := gb577) (o := .cells #[.int .i64 a2_0, .int .i32 a2_1, .bool a2_2, .bool a2_3, .bool a2_4, .string a2_5] 25 (0, 0)) (by apply_rules (transparency := .reducible) [BK577.1, bkN, bkD, bkA]) NB577_588.1 (by simp)); replace BK584 := aM (KeepBut.blk hk (g' := gb584) (o := .cells #[.int .i64 t579, .int .i64 t580, .string t581, .int .u8 t582] 36 (0, 0)) (by apply_rules (transparency := .reducible) [BK584.1, bkN, bkD, bkA]) NB584_588.1 (by simp)); replace HB := aM (hb); replace HI588 := aM (hi); (try clear hb); (try clear hb2); (try clear hk); (try clear hi)) | ((with_reducible refine gate_dst (N := 18) rfl ?_); (try (refine gate_guard (by rfl) ?_; dsimp only)); refine box_event ?hg (N := 18) ?hd (cs := #[.int .i64 0, .int .i64 0, .string (⟨#[]⟩ : ByteArray), .int .u8 0]) (t := 36) ?hr ?_; (case hd => rfl); (case hg => rfl); (case hr => first | (go_simp; done) | (go_simp; rfl)); intro gb623 hg w96 hbox hb; have BK623 := aM (hbox); have GW623 := aM ((by rw [hg]; exact (bwZ (by apply_rules (transparency := .reducible) [HB.1, bwA, bwN, bwD, bwS, (IsS53.ge HI588.1), GE577.1, GE584.1])) : w.heap.size ≤ gb623)); have GE623 := aM ((by rw [hg]; exact (bwZ (by apply_rules (transparency := .reducible) [HB.1, bwA, bwN, bwD, bwS, (IsS53.ge HI588.1), GE577.1, GE584.1])) : w.heap.size ≤ gb623)); replace HB := aM (bwP (by apply_rules (transparency := .reducible) [HB.1, bwA, bwN, bwD, bwS, (IsS53.ge HI588.1), GE577.1, GE584.1]) hb); have NB577_623 := aM ((by rw [hg]; exact Nat.ne_of_lt (bkL (g := gb577) (o := .cells #[.int .i64 a2_0, .int .i32 a2_1, .bool a2_2, .bool a2_3, .bool a2_4, .string a2_5] 25 (0, 0)) (by apply_rules (transparency := .reducible) [BK577.1, bkN, bkD, bkA])) : gb577 ≠ gb623)); have NB623_577 := aM ((by rw [hg]; exact Nat.ne_of_gt (bkL (g := gb577) (o := .cells #[.int .i64 a2_0, .int .i32 a2_1, .bool a2_2, .bool a2_3, .bool a2_4, .string a2_5] 25 (0, 0)) (by apply_rules (transparency := .reducible) [BK577.1, bkN, bkD, bkA])) : gb623 ≠ gb577)); replace BK577 := aM (bkB (g := gb577) (o := .cells #[.int .i64 a2_0, .int .i32 a2_1, .bool a2_2, .bool a2_3, .bool a2_4, .string a2_5] 25 (0, 0)) (by apply_rules (transparency := .reducible) [BK577.1, bkN, bkD, bkA]) hb); have NB584_623 := aM ((by rw [hg]; exact Nat.ne_of_lt (bkL (g := gb584) (o := .cells #[.int .i64 t579, .int .i64 t580, .string t581, .int .u8 t582] 36 (0, 0)) (by apply_rules (transparency := .reducible) [BK584.1, bkN, bkD, bkA])) : gb584 ≠ gb623)); have NB623_584 := aM ((by rw [hg]; exact Nat.ne_of_gt (bkL (g := gb584) (o := .cells #[.int .i64 t579, .int .i64 t580, .string t581, .int .u8 t582] 36 (0, 0)) (by apply_rules (transparency := .reducible) [BK584.1, bkN, bkD, bkA])) : gb623 ≠ gb584)); replace BK584 := aM (bkB (g := gb584) (o := .cells #[.int .i64 t579, .int .i64 t580, .string t581, .int .u8 t582] 36 (0, 0)) (by apply_rules (transparency := .reducible) [BK584.1, bkN, bkD, bkA]) hb); have NB588_623 := aM ((by rw [hg]; exact Nat.ne_of_lt (IsS53.lt (show IsS53 w _ g588 t620 t621 t622 from by repeat (first | (with_reducible first | exact HI588.1 | apply IsS53.alloc | apply IsS53.drewN | apply IsS53.drew | apply IsS53.set_0 | apply IsS53.set_1 | apply IsS53.set_2 | refine IsS53.far ?_ NB588_577.1 _ | refine IsS53.far ?_ NB588_584.1 _) | exact HI588.1))) : g588 ≠ gb623)); have NB623_588 := aM ((by rw [hg]; exact Nat.ne_of_gt (IsS53.lt (show IsS53 w _ g588 t620 t621 t622 from by repeat (first | (with_reducible first | exact HI588.1 | apply IsS53.alloc | apply IsS53.drewN | apply IsS53.drew | apply IsS53.set_0 | apply IsS53.set_1 | apply IsS53.set_2 | refine IsS53.far ?_ NB588_577.1 _ | refine IsS53.far ?_ NB588_584.1 _) | exact HI588.1))) : gb623 ≠ g588)); replace HI588 := aM (IsS53.below (by repeat (first | (with_reducible first | exact HI588.1 | apply IsS53.alloc | apply IsS53.drewN | apply IsS53.drew | apply IsS53.set_0 | apply IsS53.set_1 | apply IsS53.set_2 | refine IsS53.far ?_ NB588_577.1 _ | refine IsS53.far ?_ NB588_584.1 _) | exact HI588.1)) hb); clear hb hbox hg; have hnb97 := NB623_577.1; have hnc97 := NB577_623.1; have hnb98 := NB623_584.1; have hnc98 := NB584_623.1; have hnb99 := NB623_588.1; have hnc99 := NB588_623.1; obtain ⟨z100_0, z100_1, z100_2, z100_3, z100_4, z100_5, z100_6, z100_7⟩ := bx4 BK623.1; have hnb101 := NB584_588.1; have hnc101 := NB588_584.1; obtain ⟨z102_0, z102_1, z102_2, z102_3, z102_4, z102_5, z102_6, z102_7⟩ := bx4 BK584.1))
  (try simp only [Act.put, List.setIfInBounds_toArray, List.set_cons_zero, List.set_cons_succ])
  go_cut [138] (fun v138 wc => ∃ (kq : Nat) (x138_90 : Bool), v138 = .bool x138_90 ∧ Aside0 (bodkinlaw19_BindCounts.j5 kq x138_90 a2_0 a2_1 a2_2 a2_3 a2_4 a2_5 t579 ji67 t581 t582 t620 t621 t622 = some r) ∧ Aside0 (kq ≤ kj72) ∧ Aside0 (wc.heap[gb577]? = some (.cells #[.int .i64 a2_0, .int .i32 a2_1, .bool a2_2, .bool a2_3, .bool a2_4, .string a2_5] 25 (0, 0))) ∧ Aside0 (wc.heap[gb584]? = some (.cells #[.int .i64 t579, .int .i64 ji67, .string t581, .int .u8 t582] 36 (0, 0))) ∧ Aside0 (wc.heap[gb623]? = some (.cells #[.int .i64 t615, .int .i64 t616, .string t617, .int .u8 t618] 36 (0, 0))) ∧ Aside0 (IsS53 w wc g588 t620 t621 t622) ∧ Aside0 (Below w.heap.size w wc))
  case first =>
   have H := HC91.1
   clear HC91
   by_cases c103 : t619 = true
   ·subst c103
    replace H : (bodkinlaw19_BindCounts.j5 kj72 (!(eqb36 t615 t579 t616 ji67 t617 t581 t618 t582)) a2_0 a2_1 a2_2 a2_3 a2_4 a2_5 t579 ji67 t581 t582 t620 t621 t622) = some r := by rw [if_pos rfl] at H; exact H
    have H' := aM H
    clear H
    have hnb104 := NB623_577.1
    have hnc104 := NB577_623.1
    have hnb105 := NB623_584.1
    have hnc105 := NB584_623.1
    have hnb106 := NB623_588.1
    have hnc106 := NB588_623.1
    obtain ⟨z107_0, z107_1, z107_2, z107_3, z107_4, z107_5, z107_6, z107_7⟩ := bx4 BK623.1
    have hnb108 := NB584_577.1
    have hnc108 := NB577_584.1
    have hnb109 := NB584_588.1
    have hnc109 := NB588_584.1
    obtain ⟨z110_0, z110_1, z110_2, z110_3, z110_4, z110_5, z110_6, z110_7⟩ := bx4 BK584.1
    go_wp2
    go_meet
    case rel => exact ⟨_, ((!(eqb36 t615 t579 t616 ji67 t617 t581 t618 t582))), (by first | rfl | (simp; done) | (simp only [← hji67] <;> (first | rfl | simp)) | (simp [*]; done)), H', ⟨by have := HJ6.1; have := HK2.out; have := HJ68.1; have := HJ72.1; first | omega | exact Nat.le_refl _⟩, ⟨by apply_rules (transparency := .reducible) [BK577.1, bkN, bkD, bkA, bkR, NB577_584.1, NB577_623.1]⟩, ⟨by (with_reducible repeat first | apply bkN | apply bkD | apply bkA); refine bkU (cs := #[.int .i64 t579, .int .i64 t580, .string t581, .int .u8 t582]) ?_ 1 _ rfl; (with_reducible repeat first | apply bkN | apply bkD | apply bkA); refine bkR ?_ NB584_623.1 _; (with_reducible repeat first | apply bkN | apply bkD | apply bkA); refine bkR ?_ NB584_623.1 _; (with_reducible repeat first | apply bkN | apply bkD | apply bkA); refine bkR ?_ NB584_623.1 _; (with_reducible repeat first | apply bkN | apply bkD | apply bkA); refine bkR ?_ NB584_623.1 _; (with_reducible repeat first | apply bkN | apply bkD | apply bkA); exact BK584.1⟩, ⟨by (with_reducible repeat first | apply bkN | apply bkD | apply bkA); refine bkR ?_ NB623_584.1 _; (with_reducible repeat first | apply bkN | apply bkD | apply bkA); refine put4 (cs := #[.int .i64 0, .int .i64 0, .string (⟨#[]⟩ : ByteArray), .int .u8 0]) ?_ rfl; (with_reducible repeat first | apply bkN | apply bkD | apply bkA); exact BK623.1⟩, ⟨by repeat (first | (with_reducible first | exact HI588.1 | apply IsS53.alloc | apply IsS53.drewN | apply IsS53.drew | apply IsS53.set_0 | apply IsS53.set_1 | apply IsS53.set_2 | refine IsS53.far ?_ NB588_577.1 _ | refine IsS53.far ?_ NB588_584.1 _ | refine IsS53.far ?_ NB588_623.1 _) | exact HI588.1)⟩, ⟨by apply_rules (transparency := .reducible) [HB.1, bwA, bwN, bwD, bwS, (IsS53.ge HI588.1), GE577.1, GE584.1, GE623.1]⟩⟩
   replace c103 := Bool.eq_false_iff.mpr c103
   subst c103
   replace H : (bodkinlaw19_BindCounts.j5 kj72 true a2_0 a2_1 a2_2 a2_3 a2_4 a2_5 t579 ji67 t581 t582 t620 t621 t622) = some r := by rw [if_neg (show ¬ (false = true) by decide)] at H; exact H
   have H' := aM H
   clear H
   go_wp2
   go_meet
   case rel => exact ⟨_, (true), rfl, H', ⟨by have := HJ6.1; have := HK2.out; have := HJ68.1; have := HJ72.1; first | omega | exact Nat.le_refl _⟩, ⟨by apply_rules (transparency := .reducible) [BK577.1, bkN, bkD, bkA, bkR, NB577_584.1, NB577_623.1]⟩, ⟨by (with_reducible repeat first | apply bkN | apply bkD | apply bkA); refine bkU (cs := #[.int .i64 t579, .int .i64 t580, .string t581, .int .u8 t582]) ?_ 1 _ rfl; (with_reducible repeat first | apply bkN | apply bkD | apply bkA); refine bkR ?_ NB584_623.1 _; (with_reducible repeat first | apply bkN | apply bkD | apply bkA); refine bkR ?_ NB584_623.1 _; (with_reducible repeat first | apply bkN | apply bkD | apply bkA); refine bkR ?_ NB584_623.1 _; (with_reducible repeat first | apply bkN | apply bkD | apply bkA); refine bkR ?_ NB584_623.1 _; (with_reducible repeat first | apply bkN | apply bkD | apply bkA); exact BK584.1⟩, ⟨by (with_reducible repeat first | apply bkN | apply bkD | apply bkA); refine bkR ?_ NB623_584.1 _; (with_reducible repeat first | apply bkN | apply bkD | apply bkA); refine put4 (cs := #[.int .i64 0, .int .i64 0, .string (⟨#[]⟩ : ByteArray), .int .u8 0]) ?_ rfl; (with_reducible repeat first | apply bkN | apply bkD | apply bkA); exact BK623.1⟩, ⟨by repeat (first | (with_reducible first | exact HI588.1 | apply IsS53.alloc | apply IsS53.drewN | apply IsS53.drew | apply IsS53.set_0 | apply IsS53.set_1 | apply IsS53.set_2 | refine IsS53.far ?_ NB588_577.1 _ | refine IsS53.far ?_ NB588_584.1 _ | refine IsS53.far ?_ NB588_623.1 _) | exact HI588.1)⟩, ⟨by apply_rules (transparency := .reducible) [HB.1, bwA, bwN, bwD, bwS, (IsS53.ge HI588.1), GE577.1, GE584.1, GE623.1]⟩⟩
  clear HC91
  try clear c1
  try clear c5
  try clear c21
  try clear c24
  try clear c24b0
  try clear c72
  try clear c89
  try clear z100_0 z100_1 z100_2 z100_3 z100_4 z100_5 z100_6 z100_7
  try clear z102_0 z102_1 z102_2 z102_3 z102_4 z102_5 z102_6 z102_7
  try clear z10_0 z10_1 z10_2 z10_3 z10_4 z10_5 z10_6 z10_7 z10_8 z10_9 z10_10 z10_11
  try clear z14_0 z14_1 z14_2 z14_3 z14_4 z14_5 z14_6 z14_7
  try clear z94_0 z94_1 z94_2 z94_3 z94_4 z94_5 z94_6 z94_7 z94_8 z94_9 z94_10 z94_11
  obtain ⟨kq, x138_90, rfl, HA, HJ90, BK577, BK584, BK623, HI588, HB⟩ := hcut
  obtain _ | kj90 := kq
  ·exact absurd HA.1 (by simp [bodkinlaw19_BindCounts.j5])
  have H := HA.1
  clear HA
  simp only [bodkinlaw19_BindCounts.j5] at H
  by_cases c111 : x138_90 = true
  ·subst c111
   replace H : (some false) = some r := by rw [if_pos rfl] at H; exact H
   obtain rfl := Option.some.inj H
   go_wp2
   go_ret
   exact ⟨by first | rfl | (simp [errW_none, errW_some] <;> rfl) | (simp only [← hji67]; first | rfl | (simp [errW_none, errW_some] <;> rfl)) | (simp [*, errW_none, errW_some] <;> rfl), by apply_rules (transparency := .reducible) [HB.1, bwA, bwN, bwD, bwS, (IsS53.ge HI588.1), GE577.1, GE584.1, GE623.1]⟩
  replace c111 := Bool.eq_false_iff.mpr c111
  subst c111
  replace H : ((bind_Binder_Key.f kj90 t620 t621 t622 a2_0 a2_1 a2_2 a2_3 a2_4 a2_5).bind fun bt624 => ((bind_Binder_Count.f bt624.2.2.2.2.2.1 bt624.2.2.2.2.2.2.1 bt624.2.2.2.2.2.2.2).bind fun bt633 => (if bt624.2.2.2.2.1 = true then (if (eqb36 bt624.1 t579 bt624.2.1 1 bt624.2.2.1 t581 bt624.2.2.2.1 t582) = true then (some (!bt633.2.1)) else (some false)) else (some false)))) = some r := by rw [if_neg (show ¬ (false = true) by decide)] at H; exact H
  replace H := Option.bind_eq_some_iff.mp H
  obtain ⟨⟨t624, t625, t626, t627, t628, t629, t630, t631⟩, A1120, H⟩ := H
  replace H : ((bind_Binder_Count.f t629 t630 t631).bind fun bt633 => (if t628 = true then (if (eqb36 t624 t579 t625 1 t626 t581 t627 t582) = true then (some (!bt633.2.1)) else (some false)) else (some false))) = some r := H
  have A112 := aM A1120
  clear A1120
  replace H := Option.bind_eq_some_iff.mp H
  obtain ⟨⟨t633, t634, t635, t636, t637⟩, A1130, H⟩ := H
  replace H : (if t628 = true then (if (eqb36 t624 t579 t625 1 t626 t581 t627 t582) = true then (some (!t634)) else (some false)) else (some false)) = some r := H
  have A113 := aM A1130
  clear A1130
  by_cases c114 : t628 = true
  ·subst c114
   replace H : (if (eqb36 t624 t579 t625 1 t626 t581 t627 t582) = true then (some (!t634)) else (some false)) = some r := by rw [if_pos rfl] at H; exact H
   by_cases c115 : (eqb36 t624 t579 t625 1 t626 t581 t627 t582) = true
   ·rw [if_pos c115] at H
    have c115b0 : (eqb36 t624 t579 t625 1 t626 t581 t627 t582) = true := c115
    clear c115
    obtain rfl := Option.some.inj H
    have hnb116 := NB577_584.1
    have hnc116 := NB584_577.1
    have hnb117 := NB577_623.1
    have hnc117 := NB623_577.1
    have hnb118 := NB577_588.1
    have hnc118 := NB588_577.1
    obtain ⟨z119_0, z119_1, z119_2, z119_3, z119_4, z119_5, z119_6, z119_7, z119_8, z119_9, z119_10, z119_11⟩ := bx6 BK577.1
    go_wp2_with (first | ((with_reducible refine gate_callee (f := 23) rfl ?_); refine goesL_ (some 142) rfl rfl Try.func23 (by kernel_rfl) rfl #[.pointer (some ⟨g588, 0, none⟩), .agg #[.int .i64 a2_0, .int .i32 a2_1, .bool a2_2, .bool a2_3, .bool a2_4, .string a2_5]] rfl (by (try simp only [List.map_toArray, List.map_cons, List.map_nil]); first | done | rfl) ?_; (with_reducible refine (bind_Binder_Key.calls kj90 g588 t620 t621 t622 a2_0 a2_1 a2_2 a2_3 a2_4 a2_5 t624 t625 t626 t627 true t629 t630 t631 w _ ?side1 ?side2 A112.1).mono ?_); (case side1 => repeat (first | (with_reducible first | exact HI588.1 | apply IsS53.alloc | apply IsS53.drewN | apply IsS53.drew | apply IsS53.set_0 | apply IsS53.set_1 | apply IsS53.set_2 | refine IsS53.far ?_ NB588_577.1 _ | refine IsS53.far ?_ NB588_584.1 _ | refine IsS53.far ?_ NB588_623.1 _) | exact HI588.1)); (case side2 => apply_rules (transparency := .reducible) [HB.1, bwA, bwN, bwD, bwS, (IsS53.ge HI588.1), GE577.1, GE584.1, GE623.1]); rintro e w120 ⟨rfl, hi, hb, hk⟩; refine ⟨_, rfl, ?_⟩; replace BK577 := aM (KeepBut.blk hk (g' := gb577) (o := .cells #[.int .i64 a2_0, .int .i32 a2_1, .bool a2_2, .bool a2_3, .bool a2_4, .string a2_5] 25 (0, 0)) (by apply_rules (transparency := .reducible) [BK577.1, bkN, bkD, bkA]) NB577_588.1 (by simp)); replace BK584 := aM (KeepBut.blk hk (g' := gb584) (o := .cells #[.int .i64 t579, .int .i64 ji67, .string t581, .int .u8 t582] 36 (0, 0)) (by apply_rules (transparency := .reducible) [BK584.1, bkN, bkD, bkA]) NB584_588.1 (by simp)); replace BK623 := aM (KeepBut.blk hk (g' := gb623) (o := .cells #[.int .i64 t615, .int .i64 t616, .string t617, .int .u8 t618] 36 (0, 0)) (by apply_rules (transparency := .reducible) [BK623.1, bkN, bkD, bkA]) NB623_588.1 (by simp)); replace HB := aM (hb); replace HI588 := aM (hi); (try clear hb); (try clear hb2); (try clear hk); (try clear hi)) | ((with_reducible refine gate_dst (N := 20) rfl ?_); (try (refine gate_guard (by rfl) ?_; dsimp only)); refine box_event ?hg (N := 20) ?hd (cs := #[.int .i64 0, .int .i64 0, .string (⟨#[]⟩ : ByteArray), .int .u8 0]) (t := 36) ?hr ?_; (case hd => rfl); (case hg => rfl); (case hr => first | (go_simp; done) | (go_simp; rfl)); intro gb632 hg w121 hbox hb; have BK632 := aM (hbox); have GW632 := aM ((by rw [hg]; exact (bwZ (by apply_rules (transparency := .reducible) [HB.1, bwA, bwN, bwD, bwS, (IsS53.ge HI588.1), GE577.1, GE584.1, GE623.1])) : w.heap.size ≤ gb632)); have GE632 := aM ((by rw [hg]; exact (bwZ (by apply_rules (transparency := .reducible) [HB.1, bwA, bwN, bwD, bwS, (IsS53.ge HI588.1), GE577.1, GE584.1, GE623.1])) : w.heap.size ≤ gb632)); replace HB := aM (bwP (by apply_rules (transparency := .reducible) [HB.1, bwA, bwN, bwD, bwS, (IsS53.ge HI588.1), GE577.1, GE584.1, GE623.1]) hb); have NB577_632 := aM ((by rw [hg]; exact Nat.ne_of_lt (bkL (g := gb577) (o := .cells #[.int .i64 a2_0, .int .i32 a2_1, .bool a2_2, .bool a2_3, .bool a2_4, .string a2_5] 25 (0, 0)) (by apply_rules (transparency := .reducible) [BK577.1, bkN, bkD, bkA])) : gb577 ≠ gb632)); have NB632_577 := aM ((by rw [hg]; exact Nat.ne_of_gt (bkL (g := gb577) (o := .cells #[.int .i64 a2_0, .int .i32 a2_1, .bool a2_2, .bool a2_3, .bool a2_4, .string a2_5] 25 (0, 0)) (by apply_rules (transparency := .reducible) [BK577.1, bkN, bkD, bkA])) : gb632 ≠ gb577)); replace BK577 := aM (bkB (g := gb577) (o := .cells #[.int .i64 a2_0, .int .i32 a2_1, .bool a2_2, .bool a2_3, .bool a2_4, .string a2_5] 25 (0, 0)) (by apply_rules (transparency := .reducible) [BK577.1, bkN, bkD, bkA]) hb); have NB584_632 := aM ((by rw [hg]; exact Nat.ne_of_lt (bkL (g := gb584) (o := .cells #[.int .i64 t579, .int .i64 ji67, .string t581, .int .u8 t582] 36 (0, 0)) (by apply_rules (transparency := .reducible) [BK584.1, bkN, bkD, bkA])) : gb584 ≠ gb632)); have NB632_584 := aM ((by rw [hg]; exact Nat.ne_of_gt (bkL (g := gb584) (o := .cells #[.int .i64 t579, .int .i64 ji67, .string t581, .int .u8 t582] 36 (0, 0)) (by apply_rules (transparency := .reducible) [BK584.1, bkN, bkD, bkA])) : gb632 ≠ gb584)); replace BK584 := aM (bkB (g := gb584) (o := .cells #[.int .i64 t579, .int .i64 ji67, .string t581, .int .u8 t582] 36 (0, 0)) (by apply_rules (transparency := .reducible) [BK584.1, bkN, bkD, bkA]) hb); have NB623_632 := aM ((by rw [hg]; exact Nat.ne_of_lt (bkL (g := gb623) (o := .cells #[.int .i64 t615, .int .i64 t616, .string t617, .int .u8 t618] 36 (0, 0)) (by apply_rules (transparency := .reducible) [BK623.1, bkN, bkD, bkA])) : gb623 ≠ gb632)); have NB632_623 := aM ((by rw [hg]; exact Nat.ne_of_gt (bkL (g := gb623) (o := .cells #[.int .i64 t615, .int .i64 t616, .string t617, .int .u8 t618] 36 (0, 0)) (by apply_rules (transparency := .reducible) [BK623.1, bkN, bkD, bkA])) : gb632 ≠ gb623)); replace BK623 := aM (bkB (g := gb623) (o := .cells #[.int .i64 t615, .int .i64 t616, .string t617, .int .u8 t618] 36 (0, 0)) (by apply_rules (transparency := .reducible) [BK623.1, bkN, bkD, bkA]) hb); have NB588_632 := aM ((by rw [hg]; exact Nat.ne_of_lt (IsS53.lt (show IsS53 w _ g588 t629 t630 t631 from by repeat (first | (with_reducible first | exact HI588.1 | apply IsS53.alloc | apply IsS53.drewN | apply IsS53.drew | apply IsS53.set_0 | apply IsS53.set_1 | apply IsS53.set_2 | refine IsS53.far ?_ NB588_577.1 _ | refine IsS53.far ?_ NB588_584.1 _ | refine IsS53.far ?_ NB588_623.1 _) | exact HI588.1))) : g588 ≠ gb632)); have NB632_588 := aM ((by rw [hg]; exact Nat.ne_of_gt (IsS53.lt (show IsS53 w _ g588 t629 t630 t631 from by repeat (first | (with_reducible first | exact HI588.1 | apply IsS53.alloc | apply IsS53.drewN | apply IsS53.drew | apply IsS53.set_0 | apply IsS53.set_1 | apply IsS53.set_2 | refine IsS53.far ?_ NB588_577.1 _ | refine IsS53.far ?_ NB588_584.1 _ | refine IsS53.far ?_ NB588_623.1 _) | exact HI588.1))) : gb632 ≠ g588)); replace HI588 := aM (IsS53.below (by repeat (first | (with_reducible first | exact HI588.1 | apply IsS53.alloc | apply IsS53.drewN | apply IsS53.drew | apply IsS53.set_0 | apply IsS53.set_1 | apply IsS53.set_2 | refine IsS53.far ?_ NB588_577.1 _ | refine IsS53.far ?_ NB588_584.1 _ | refine IsS53.far ?_ NB588_623.1 _) | exact HI588.1)) hb); clear hb hbox hg; have hnb122 := NB632_577.1; have hnc122 := NB577_632.1; have hnb123 := NB632_584.1; have hnc123 := NB584_632.1; have hnb124 := NB632_623.1; have hnc124 := NB623_632.1; have hnb125 := NB632_588.1; have hnc125 := NB588_632.1; obtain ⟨z126_0, z126_1, z126_2, z126_3, z126_4, z126_5, z126_6, z126_7⟩ := bx4 BK632.1; have hnb127 := NB584_623.1; have hnc127 := NB623_584.1; have hnb128 := NB584_588.1; have hnc128 := NB588_584.1; obtain ⟨z129_0, z129_1, z129_2, z129_3, z129_4, z129_5, z129_6, z129_7⟩ := bx4 BK584.1) | ((with_reducible refine gate_callee (f := 24) rfl ?_); refine goesL_ (some 148) rfl rfl Try.func24 (by kernel_rfl) rfl #[.pointer (some ⟨g588, 0, none⟩)] rfl (by (try simp only [List.map_toArray, List.map_cons, List.map_nil]); first | done | rfl) ?_; (with_reducible refine (bind_Binder_Count.calls g588 t629 t630 t631 t633 t634 t635 t636 t637 w _ ?side1 ?side2 A113.1).mono ?_); (case side1 => repeat (first | (with_reducible first | exact HI588.1 | apply IsS53.alloc | apply IsS53.drewN | apply IsS53.drew | apply IsS53.set_0 | apply IsS53.set_1 | apply IsS53.set_2 | refine IsS53.far ?_ NB588_577.1 _ | refine IsS53.far ?_ NB588_584.1 _ | refine IsS53.far ?_ NB588_623.1 _ | refine IsS53.far ?_ NB588_632.1 _) | exact HI588.1)); (case side2 => apply_rules (transparency := .reducible) [HB.1, bwA, bwN, bwD, bwS, (IsS53.ge HI588.1), GE577.1, GE584.1, GE623.1, GE632.1]); rintro e w130 ⟨rfl, hi, hb, hk⟩; refine ⟨_, rfl, ?_⟩; replace BK577 := aM (KeepBut.blk hk (g' := gb577) (o := .cells #[.int .i64 a2_0, .int .i32 a2_1, .bool a2_2, .bool a2_3, .bool a2_4, .string a2_5] 25 (0, 0)) (by apply_rules (transparency := .reducible) [BK577.1, bkN, bkD, bkA, bkR, NB577_584.1, NB577_632.1]) NB577_588.1 (by simp)); replace BK584 := aM (KeepBut.blk hk (g' := gb584) (o := .cells #[.int .i64 t579, .int .i64 1, .string t581, .int .u8 t582] 36 (0, 0)) (by (with_reducible repeat first | apply bkN | apply bkD | apply bkA); refine bkU (cs := #[.int .i64 t579, .int .i64 ji67, .string t581, .int .u8 t582]) ?_ 1 _ rfl; (with_reducible repeat first | apply bkN | apply bkD | apply bkA); refine bkR ?_ NB584_632.1 _; (with_reducible repeat first | apply bkN | apply bkD | apply bkA); refine bkR ?_ NB584_632.1 _; (with_reducible repeat first | apply bkN | apply bkD | apply bkA); refine bkR ?_ NB584_632.1 _; (with_reducible repeat first | apply bkN | apply bkD | apply bkA); refine bkR ?_ NB584_632.1 _; (with_reducible repeat first | apply bkN | apply bkD | apply bkA); exact BK584.1) NB584_588.1 (by simp)); replace BK623 := aM (KeepBut.blk hk (g' := gb623) (o := .cells #[.int .i64 t615, .int .i64 t616, .string t617, .int .u8 t618] 36 (0, 0)) (by apply_rules (transparency := .reducible) [BK623.1, bkN, bkD, bkA, bkR, NB623_584.1, NB623_632.1]) NB623_588.1 (by simp)); replace BK632 := aM (KeepBut.blk hk (g' := gb632) (o := .cells #[.int .i64 t624, .int .i64 t625, .string t626, .int .u8 t627] 36 (0, 0)) (by (with_reducible repeat first | apply bkN | apply bkD | apply bkA); refine bkR ?_ NB632_584.1 _; (with_reducible repeat first | apply bkN | apply bkD | apply bkA); refine put4 (cs := #[.int .i64 0, .int .i64 0, .string (⟨#[]⟩ : ByteArray), .int .u8 0]) ?_ rfl; (with_reducible repeat first | apply bkN | apply bkD | apply bkA); exact BK632.1) NB632_588.1 (by simp)); replace HB := aM (hb); replace HI588 := aM (hi); (try clear hb); (try clear hb2); (try clear hk); (try clear hi); obtain ⟨z131_0, z131_1, z131_2, z131_3, z131_4, z131_5, z131_6, z131_7⟩ := bx4 BK632.1; obtain ⟨z132_0, z132_1, z132_2, z132_3, z132_4, z132_5, z132_6, z132_7⟩ := bx4 BK584.1))
    go_ret
    exact ⟨by first | rfl | (simp [errW_none, errW_some] <;> rfl) | (simp only [← hji67]; first | rfl | (simp [errW_none, errW_some] <;> rfl)) | (simp [*, errW_none, errW_some] <;> rfl), by apply_rules (transparency := .reducible) [HB.1, bwA, bwN, bwD, bwS, (IsS53.ge HI588.1), GE577.1, GE584.1, GE623.1, GE632.1]⟩
   rw [if_neg c115] at H
   have c115b0 : (eqb36 t624 t579 t625 1 t626 t581 t627 t582) = false := by simpa using c115
   clear c115
   obtain rfl := Option.some.inj H
   have hnb133 := NB577_584.1
   have hnc133 := NB584_577.1
   have hnb134 := NB577_623.1
   have hnc134 := NB623_577.1
   have hnb135 := NB577_588.1
   have hnc135 := NB588_577.1
   obtain ⟨z136_0, z136_1, z136_2, z136_3, z136_4, z136_5, z136_6, z136_7, z136_8, z136_9, z136_10, z136_11⟩ := bx6 BK577.1
   go_wp2_with (first | ((with_reducible refine gate_callee (f := 23) rfl ?_); refine goesL_ (some 142) rfl rfl Try.func23 (by kernel_rfl) rfl #[.pointer (some ⟨g588, 0, none⟩), .agg #[.int .i64 a2_0, .int .i32 a2_1, .bool a2_2, .bool a2_3, .bool a2_4, .string a2_5]] rfl (by (try simp only [List.map_toArray, List.map_cons, List.map_nil]); first | done | rfl) ?_; (with_reducible refine (bind_Binder_Key.calls kj90 g588 t620 t621 t622 a2_0 a2_1 a2_2 a2_3 a2_4 a2_5 t624 t625 t626 t627 true t629 t630 t631 w _ ?side1 ?side2 A112.1).mono ?_); (case side1 => repeat (first | (with_reducible first | exact HI588.1 | apply IsS53.alloc | apply IsS53.drewN | apply IsS53.drew | apply IsS53.set_0 | apply IsS53.set_1 | apply IsS53.set_2 | refine IsS53.far ?_ NB588_577.1 _ | refine IsS53.far ?_ NB588_584.1 _ | refine IsS53.far ?_ NB588_623.1 _) | exact HI588.1)); (case side2 => apply_rules (transparency := .reducible) [HB.1, bwA, bwN, bwD, bwS, (IsS53.ge HI588.1), GE577.1, GE584.1, GE623.1]); rintro e w137 ⟨rfl, hi, hb, hk⟩; refine ⟨_, rfl, ?_⟩; replace BK577 := aM (KeepBut.blk hk (g' := gb577) (o := .cells #[.int .i64 a2_0, .int .i32 a2_1, .bool a2_2, .bool a2_3, .bool a2_4, .string a2_5] 25 (0, 0)) (by apply_rules (transparency := .reducible) [BK577.1, bkN, bkD, bkA]) NB577_588.1 (by simp)); replace BK584 := aM (KeepBut.blk hk (g' := gb584) (o := .cells #[.int .i64 t579, .int .i64 ji67, .string t581, .int .u8 t582] 36 (0, 0)) (by apply_rules (transparency := .reducible) [BK584.1, bkN, bkD, bkA]) NB584_588.1 (by simp)); replace BK623 := aM (KeepBut.blk hk (g' := gb623) (o := .cells #[.int .i64 t615, .int .i64 t616, .string t617, .int .u8 t618] 36 (0, 0)) (by apply_rules (transparency := .reducible) [BK623.1, bkN, bkD, bkA]) NB623_588.1 (by simp)); replace HB := aM (hb); replace HI588 := aM (hi); (try clear hb); (try clear hb2); (try clear hk); (try clear hi)) | ((with_reducible refine gate_dst (N := 20) rfl ?_); (try (refine gate_guard (by rfl) ?_; dsimp only)); refine box_event ?hg (N := 20) ?hd (cs := #[.int .i64 0, .int .i64 0, .string (⟨#[]⟩ : ByteArray), .int .u8 0]) (t := 36) ?hr ?_; (case hd => rfl); (case hg => rfl); (case hr => first | (go_simp; done) | (go_simp; rfl)); intro gb632 hg w138 hbox hb; have BK632 := aM (hbox); have GW632 := aM ((by rw [hg]; exact (bwZ (by apply_rules (transparency := .reducible) [HB.1, bwA, bwN, bwD, bwS, (IsS53.ge HI588.1), GE577.1, GE584.1, GE623.1])) : w.heap.size ≤ gb632)); have GE632 := aM ((by rw [hg]; exact (bwZ (by apply_rules (transparency := .reducible) [HB.1, bwA, bwN, bwD, bwS, (IsS53.ge HI588.1), GE577.1, GE584.1, GE623.1])) : w.heap.size ≤ gb632)); replace HB := aM (bwP (by apply_rules (transparency := .reducible) [HB.1, bwA, bwN, bwD, bwS, (IsS53.ge HI588.1), GE577.1, GE584.1, GE623.1]) hb); have NB577_632 := aM ((by rw [hg]; exact Nat.ne_of_lt (bkL (g := gb577) (o := .cells #[.int .i64 a2_0, .int .i32 a2_1, .bool a2_2, .bool a2_3, .bool a2_4, .string a2_5] 25 (0, 0)) (by apply_rules (transparency := .reducible) [BK577.1, bkN, bkD, bkA])) : gb577 ≠ gb632)); have NB632_577 := aM ((by rw [hg]; exact Nat.ne_of_gt (bkL (g := gb577) (o := .cells #[.int .i64 a2_0, .int .i32 a2_1, .bool a2_2, .bool a2_3, .bool a2_4, .string a2_5] 25 (0, 0)) (by apply_rules (transparency := .reducible) [BK577.1, bkN, bkD, bkA])) : gb632 ≠ gb577)); replace BK577 := aM (bkB (g := gb577) (o := .cells #[.int .i64 a2_0, .int .i32 a2_1, .bool a2_2, .bool a2_3, .bool a2_4, .string a2_5] 25 (0, 0)) (by apply_rules (transparency := .reducible) [BK577.1, bkN, bkD, bkA]) hb); have NB584_632 := aM ((by rw [hg]; exact Nat.ne_of_lt (bkL (g := gb584) (o := .cells #[.int .i64 t579, .int .i64 ji67, .string t581, .int .u8 t582] 36 (0, 0)) (by apply_rules (transparency := .reducible) [BK584.1, bkN, bkD, bkA])) : gb584 ≠ gb632)); have NB632_584 := aM ((by rw [hg]; exact Nat.ne_of_gt (bkL (g := gb584) (o := .cells #[.int .i64 t579, .int .i64 ji67, .string t581, .int .u8 t582] 36 (0, 0)) (by apply_rules (transparency := .reducible) [BK584.1, bkN, bkD, bkA])) : gb632 ≠ gb584)); replace BK584 := aM (bkB (g := gb584) (o := .cells #[.int .i64 t579, .int .i64 ji67, .string t581, .int .u8 t582] 36 (0, 0)) (by apply_rules (transparency := .reducible) [BK584.1, bkN, bkD, bkA]) hb); have NB623_632 := aM ((by rw [hg]; exact Nat.ne_of_lt (bkL (g := gb623) (o := .cells #[.int .i64 t615, .int .i64 t616, .string t617, .int .u8 t618] 36 (0, 0)) (by apply_rules (transparency := .reducible) [BK623.1, bkN, bkD, bkA])) : gb623 ≠ gb632)); have NB632_623 := aM ((by rw [hg]; exact Nat.ne_of_gt (bkL (g := gb623) (o := .cells #[.int .i64 t615, .int .i64 t616, .string t617, .int .u8 t618] 36 (0, 0)) (by apply_rules (transparency := .reducible) [BK623.1, bkN, bkD, bkA])) : gb632 ≠ gb623)); replace BK623 := aM (bkB (g := gb623) (o := .cells #[.int .i64 t615, .int .i64 t616, .string t617, .int .u8 t618] 36 (0, 0)) (by apply_rules (transparency := .reducible) [BK623.1, bkN, bkD, bkA]) hb); have NB588_632 := aM ((by rw [hg]; exact Nat.ne_of_lt (IsS53.lt (show IsS53 w _ g588 t629 t630 t631 from by repeat (first | (with_reducible first | exact HI588.1 | apply IsS53.alloc | apply IsS53.drewN | apply IsS53.drew | apply IsS53.set_0 | apply IsS53.set_1 | apply IsS53.set_2 | refine IsS53.far ?_ NB588_577.1 _ | refine IsS53.far ?_ NB588_584.1 _ | refine IsS53.far ?_ NB588_623.1 _) | exact HI588.1))) : g588 ≠ gb632)); have NB632_588 := aM ((by rw [hg]; exact Nat.ne_of_gt (IsS53.lt (show IsS53 w _ g588 t629 t630 t631 from by repeat (first | (with_reducible first | exact HI588.1 | apply IsS53.alloc | apply IsS53.drewN | apply IsS53.drew | apply IsS53.set_0 | apply IsS53.set_1 | apply IsS53.set_2 | refine IsS53.far ?_ NB588_577.1 _ | refine IsS53.far ?_ NB588_584.1 _ | refine IsS53.far ?_ NB588_623.1 _) | exact HI588.1))) : gb632 ≠ g588)); replace HI588 := aM (IsS53.below (by repeat (first | (with_reducible first | exact HI588.1 | apply IsS53.alloc | apply IsS53.drewN | apply IsS53.drew | apply IsS53.set_0 | apply IsS53.set_1 | apply IsS53.set_2 | refine IsS53.far ?_ NB588_577.1 _ | refine IsS53.far ?_ NB588_584.1 _ | refine IsS53.far ?_ NB588_623.1 _) | exact HI588.1)) hb); clear hb hbox hg; have hnb139 := NB632_577.1; have hnc139 := NB577_632.1; have hnb140 := NB632_584.1; have hnc140 := NB584_632.1; have hnb141 := NB632_623.1; have hnc141 := NB623_632.1; have hnb142 := NB632_588.1; have hnc142 := NB588_632.1; obtain ⟨z143_0, z143_1, z143_2, z143_3, z143_4, z143_5, z143_6, z143_7⟩ := bx4 BK632.1; have hnb144 := NB584_623.1; have hnc144 := NB623_584.1; have hnb145 := NB584_588.1; have hnc145 := NB588_584.1; obtain ⟨z146_0, z146_1, z146_2, z146_3, z146_4, z146_5, z146_6, z146_7⟩ := bx4 BK584.1) | ((with_reducible refine gate_callee (f := 24) rfl ?_); refine goesL_ (some 148) rfl rfl Try.func24 (by kernel_rfl) rfl #[.pointer (some ⟨g588, 0, none⟩)] rfl (by (try simp only [List.map_toArray, List.map_cons, List.map_nil]); first | done | rfl) ?_; (with_reducible refine (bind_Binder_Count.calls g588 t629 t630 t631 t633 t634 t635 t636 t637 w _ ?side1 ?side2 A113.1).mono ?_); (case side1 => repeat (first | (with_reducible first | exact HI588.1 | apply IsS53.alloc | apply IsS53.drewN | apply IsS53.drew | apply IsS53.set_0 | apply IsS53.set_1 | apply IsS53.set_2 | refine IsS53.far ?_ NB588_577.1 _ | refine IsS53.far ?_ NB588_584.1 _ | refine IsS53.far ?_ NB588_623.1 _ | refine IsS53.far ?_ NB588_632.1 _) | exact HI588.1)); (case side2 => apply_rules (transparency := .reducible) [HB.1, bwA, bwN, bwD, bwS, (IsS53.ge HI588.1), GE577.1, GE584.1, GE623.1, GE632.1]); rintro e w147 ⟨rfl, hi, hb, hk⟩; refine ⟨_, rfl, ?_⟩; replace BK577 := aM (KeepBut.blk hk (g' := gb577) (o := .cells #[.int .i64 a2_0, .int .i32 a2_1, .bool a2_2, .bool a2_3, .bool a2_4, .string a2_5] 25 (0, 0)) (by apply_rules (transparency := .reducible) [BK577.1, bkN, bkD, bkA, bkR, NB577_584.1, NB577_632.1]) NB577_588.1 (by simp)); replace BK584 := aM (KeepBut.blk hk (g' := gb584) (o := .cells #[.int .i64 t579, .int .i64 1, .string t581, .int .u8 t582] 36 (0, 0)) (by (with_reducible repeat first | apply bkN | apply bkD | apply bkA); refine bkU (cs := #[.int .i64 t579, .int .i64 ji67, .string t581, .int .u8 t582]) ?_ 1 _ rfl; (with_reducible repeat first | apply bkN | apply bkD | apply bkA); refine bkR ?_ NB584_632.1 _; (with_reducible repeat first | apply bkN | apply bkD | apply bkA); refine bkR ?_ NB584_632.1 _; (with_reducible repeat first | apply bkN | apply bkD | apply bkA); refine bkR ?_ NB584_632.1 _; (with_reducible repeat first | apply bkN | apply bkD | apply bkA); refine bkR ?_ NB584_632.1 _; (with_reducible repeat first | apply bkN | apply bkD | apply bkA); exact BK584.1) NB584_588.1 (by simp)); replace BK623 := aM (KeepBut.blk hk (g' := gb623) (o := .cells #[.int .i64 t615, .int .i64 t616, .string t617, .int .u8 t618] 36 (0, 0)) (by apply_rules (transparency := .reducible) [BK623.1, bkN, bkD, bkA, bkR, NB623_584.1, NB623_632.1]) NB623_588.1 (by simp)); replace BK632 := aM (KeepBut.blk hk (g' := gb632) (o := .cells #[.int .i64 t624, .int .i64 t625, .string t626, .int .u8 t627] 36 (0, 0)) (by (with_reducible repeat first | apply bkN | apply bkD | apply bkA); refine bkR ?_ NB632_584.1 _; (with_reducible repeat first | apply bkN | apply bkD | apply bkA); refine put4 (cs := #[.int .i64 0, .int .i64 0, .string (⟨#[]⟩ : ByteArray), .int .u8 0]) ?_ rfl; (with_reducible repeat first | apply bkN | apply bkD | apply bkA); exact BK632.1) NB632_588.1 (by simp)); replace HB := aM (hb); replace HI588 := aM (hi); (try clear hb); (try clear hb2); (try clear hk); (try clear hi); obtain ⟨z148_0, z148_1, z148_2, z148_3, z148_4, z148_5, z148_6, z148_7⟩ := bx4 BK632.1; obtain ⟨z149_0, z149_1, z149_2, z149_3, z149_4, z149_5, z149_6, z149_7⟩ := bx4 BK584.1))
   go_ret
   exact ⟨by first | rfl | (simp [errW_none, errW_some] <;> rfl) | (simp only [← hji67]; first | rfl | (simp [errW_none, errW_some] <;> rfl)) | (simp [*, errW_none, errW_some] <;> rfl), by apply_rules (transparency := .reducible) [HB.1, bwA, bwN, bwD, bwS, (IsS53.ge HI588.1), GE577.1, GE584.1, GE623.1, GE632.1]⟩
  replace c114 := Bool.eq_false_iff.mpr c114
  subst c114
  replace H : (some false) = some r := by rw [if_neg (show ¬ (false = true) by decide)] at H; exact H
  obtain rfl := Option.some.inj H
  have hnb150 := NB577_584.1
  have hnc150 := NB584_577.1
  have hnb151 := NB577_623.1
  have hnc151 := NB623_577.1
  have hnb152 := NB577_588.1
  have hnc152 := NB588_577.1
  obtain ⟨z153_0, z153_1, z153_2, z153_3, z153_4, z153_5, z153_6, z153_7, z153_8, z153_9, z153_10, z153_11⟩ := bx6 BK577.1
  go_wp2_with (first | ((with_reducible refine gate_callee (f := 23) rfl ?_); refine goesL_ (some 142) rfl rfl Try.func23 (by kernel_rfl) rfl #[.pointer (some ⟨g588, 0, none⟩), .agg #[.int .i64 a2_0, .int .i32 a2_1, .bool a2_2, .bool a2_3, .bool a2_4, .string a2_5]] rfl (by (try simp only [List.map_toArray, List.map_cons, List.map_nil]); first | done | rfl) ?_; (with_reducible refine (bind_Binder_Key.calls kj90 g588 t620 t621 t622 a2_0 a2_1 a2_2 a2_3 a2_4 a2_5 t624 t625 t626 t627 false t629 t630 t631 w _ ?side1 ?side2 A112.1).mono ?_); (case side1 => repeat (first | (with_reducible first | exact HI588.1 | apply IsS53.alloc | apply IsS53.drewN | apply IsS53.drew | apply IsS53.set_0 | apply IsS53.set_1 | apply IsS53.set_2 | refine IsS53.far ?_ NB588_577.1 _ | refine IsS53.far ?_ NB588_584.1 _ | refine IsS53.far ?_ NB588_623.1 _) | exact HI588.1)); (case side2 => apply_rules (transparency := .reducible) [HB.1, bwA, bwN, bwD, bwS, (IsS53.ge HI588.1), GE577.1, GE584.1, GE623.1]); rintro e w154 ⟨rfl, hi, hb, hk⟩; refine ⟨_, rfl, ?_⟩; replace BK577 := aM (KeepBut.blk hk (g' := gb577) (o := .cells #[.int .i64 a2_0, .int .i32 a2_1, .bool a2_2, .bool a2_3, .bool a2_4, .string a2_5] 25 (0, 0)) (by apply_rules (transparency := .reducible) [BK577.1, bkN, bkD, bkA]) NB577_588.1 (by simp)); replace BK584 := aM (KeepBut.blk hk (g' := gb584) (o := .cells #[.int .i64 t579, .int .i64 ji67, .string t581, .int .u8 t582] 36 (0, 0)) (by apply_rules (transparency := .reducible) [BK584.1, bkN, bkD, bkA]) NB584_588.1 (by simp)); replace BK623 := aM (KeepBut.blk hk (g' := gb623) (o := .cells #[.int .i64 t615, .int .i64 t616, .string t617, .int .u8 t618] 36 (0, 0)) (by apply_rules (transparency := .reducible) [BK623.1, bkN, bkD, bkA]) NB623_588.1 (by simp)); replace HB := aM (hb); replace HI588 := aM (hi); (try clear hb); (try clear hb2); (try clear hk); (try clear hi)) | ((with_reducible refine gate_dst (N := 20) rfl ?_); (try (refine gate_guard (by rfl) ?_; dsimp only)); refine box_event ?hg (N := 20) ?hd (cs := #[.int .i64 0, .int .i64 0, .string (⟨#[]⟩ : ByteArray), .int .u8 0]) (t := 36) ?hr ?_; (case hd => rfl); (case hg => rfl); (case hr => first | (go_simp; done) | (go_simp; rfl)); intro gb632 hg w155 hbox hb; have BK632 := aM (hbox); have GW632 := aM ((by rw [hg]; exact (bwZ (by apply_rules (transparency := .reducible) [HB.1, bwA, bwN, bwD, bwS, (IsS53.ge HI588.1), GE577.1, GE584.1, GE623.1])) : w.heap.size ≤ gb632)); have GE632 := aM ((by rw [hg]; exact (bwZ (by apply_rules (transparency := .reducible) [HB.1, bwA, bwN, bwD, bwS, (IsS53.ge HI588.1), GE577.1, GE584.1, GE623.1])) : w.heap.size ≤ gb632)); replace HB := aM (bwP (by apply_rules (transparency := .reducible) [HB.1, bwA, bwN, bwD, bwS, (IsS53.ge HI588.1), GE577.1, GE584.1, GE623.1]) hb); have NB577_632 := aM ((by rw [hg]; exact Nat.ne_of_lt (bkL (g := gb577) (o := .cells #[.int .i64 a2_0, .int .i32 a2_1, .bool a2_2, .bool a2_3, .bool a2_4, .string a2_5] 25 (0, 0)) (by apply_rules (transparency := .reducible) [BK577.1, bkN, bkD, bkA])) : gb577 ≠ gb632)); have NB632_577 := aM ((by rw [hg]; exact Nat.ne_of_gt (bkL (g := gb577) (o := .cells #[.int .i64 a2_0, .int .i32 a2_1, .bool a2_2, .bool a2_3, .bool a2_4, .string a2_5] 25 (0, 0)) (by apply_rules (transparency := .reducible) [BK577.1, bkN, bkD, bkA])) : gb632 ≠ gb577)); replace BK577 := aM (bkB (g := gb577) (o := .cells #[.int .i64 a2_0, .int .i32 a2_1, .bool a2_2, .bool a2_3, .bool a2_4, .string a2_5] 25 (0, 0)) (by apply_rules (transparency := .reducible) [BK577.1, bkN, bkD, bkA]) hb); have NB584_632 := aM ((by rw [hg]; exact Nat.ne_of_lt (bkL (g := gb584) (o := .cells #[.int .i64 t579, .int .i64 ji67, .string t581, .int .u8 t582] 36 (0, 0)) (by apply_rules (transparency := .reducible) [BK584.1, bkN, bkD, bkA])) : gb584 ≠ gb632)); have NB632_584 := aM ((by rw [hg]; exact Nat.ne_of_gt (bkL (g := gb584) (o := .cells #[.int .i64 t579, .int .i64 ji67, .string t581, .int .u8 t582] 36 (0, 0)) (by apply_rules (transparency := .reducible) [BK584.1, bkN, bkD, bkA])) : gb632 ≠ gb584)); replace BK584 := aM (bkB (g := gb584) (o := .cells #[.int .i64 t579, .int .i64 ji67, .string t581, .int .u8 t582] 36 (0, 0)) (by apply_rules (transparency := .reducible) [BK584.1, bkN, bkD, bkA]) hb); have NB623_632 := aM ((by rw [hg]; exact Nat.ne_of_lt (bkL (g := gb623) (o := .cells #[.int .i64 t615, .int .i64 t616, .string t617, .int .u8 t618] 36 (0, 0)) (by apply_rules (transparency := .reducible) [BK623.1, bkN, bkD, bkA])) : gb623 ≠ gb632)); have NB632_623 := aM ((by rw [hg]; exact Nat.ne_of_gt (bkL (g := gb623) (o := .cells #[.int .i64 t615, .int .i64 t616, .string t617, .int .u8 t618] 36 (0, 0)) (by apply_rules (transparency := .reducible) [BK623.1, bkN, bkD, bkA])) : gb632 ≠ gb623)); replace BK623 := aM (bkB (g := gb623) (o := .cells #[.int .i64 t615, .int .i64 t616, .string t617, .int .u8 t618] 36 (0, 0)) (by apply_rules (transparency := .reducible) [BK623.1, bkN, bkD, bkA]) hb); have NB588_632 := aM ((by rw [hg]; exact Nat.ne_of_lt (IsS53.lt (show IsS53 w _ g588 t629 t630 t631 from by repeat (first | (with_reducible first | exact HI588.1 | apply IsS53.alloc | apply IsS53.drewN | apply IsS53.drew | apply IsS53.set_0 | apply IsS53.set_1 | apply IsS53.set_2 | refine IsS53.far ?_ NB588_577.1 _ | refine IsS53.far ?_ NB588_584.1 _ | refine IsS53.far ?_ NB588_623.1 _) | exact HI588.1))) : g588 ≠ gb632)); have NB632_588 := aM ((by rw [hg]; exact Nat.ne_of_gt (IsS53.lt (show IsS53 w _ g588 t629 t630 t631 from by repeat (first | (with_reducible first | exact HI588.1 | apply IsS53.alloc | apply IsS53.drewN | apply IsS53.drew | apply IsS53.set_0 | apply IsS53.set_1 | apply IsS53.set_2 | refine IsS53.far ?_ NB588_577.1 _ | refine IsS53.far ?_ NB588_584.1 _ | refine IsS53.far ?_ NB588_623.1 _) | exact HI588.1))) : gb632 ≠ g588)); replace HI588 := aM (IsS53.below (by repeat (first | (with_reducible first | exact HI588.1 | apply IsS53.alloc | apply IsS53.drewN | apply IsS53.drew | apply IsS53.set_0 | apply IsS53.set_1 | apply IsS53.set_2 | refine IsS53.far ?_ NB588_577.1 _ | refine IsS53.far ?_ NB588_584.1 _ | refine IsS53.far ?_ NB588_623.1 _) | exact HI588.1)) hb); clear hb hbox hg; have hnb156 := NB632_577.1; have hnc156 := NB577_632.1; have hnb157 := NB632_584.1; have hnc157 := NB584_632.1; have hnb158 := NB632_623.1; have hnc158 := NB623_632.1; have hnb159 := NB632_588.1; have hnc159 := NB588_632.1; obtain ⟨z160_0, z160_1, z160_2, z160_3, z160_4, z160_5, z160_6, z160_7⟩ := bx4 BK632.1; have hnb161 := NB584_623.1; have hnc161 := NB623_584.1; have hnb162 := NB584_588.1; have hnc162 := NB588_584.1; obtain ⟨z163_0, z163_1, z163_2, z163_3, z163_4, z163_5, z163_6, z163_7⟩ := bx4 BK584.1) | ((with_reducible refine gate_callee (f := 24) rfl ?_); refine goesL_ (some 148) rfl rfl Try.func24 (by kernel_rfl) rfl #[.pointer (some ⟨g588, 0, none⟩)] rfl (by (try simp only [List.map_toArray, List.map_cons, List.map_nil]); first | done | rfl) ?_; (with_reducible refine (bind_Binder_Count.calls g588 t629 t630 t631 t633 t634 t635 t636 t637 w _ ?side1 ?side2 A113.1).mono ?_); (case side1 => repeat (first | (with_reducible first | exact HI588.1 | apply IsS53.alloc | apply IsS53.drewN | apply IsS53.drew | apply IsS53.set_0 | apply IsS53.set_1 | apply IsS53.set_2 | refine IsS53.far ?_ NB588_577.1 _ | refine IsS53.far ?_ NB588_584.1 _ | refine IsS53.far ?_ NB588_623.1 _ | refine IsS53.far ?_ NB588_632.1 _) | exact HI588.1)); (case side2 => apply_rules (transparency := .reducible) [HB.1, bwA, bwN, bwD, bwS, (IsS53.ge HI588.1), GE577.1, GE584.1, GE623.1, GE632.1]); rintro e w164 ⟨rfl, hi, hb, hk⟩; refine ⟨_, rfl, ?_⟩; replace BK577 := aM (KeepBut.blk hk (g' := gb577) (o := .cells #[.int .i64 a2_0, .int .i32 a2_1, .bool a2_2, .bool a2_3, .bool a2_4, .string a2_5] 25 (0, 0)) (by apply_rules (transparency := .reducible) [BK577.1, bkN, bkD, bkA, bkR, NB577_584.1, NB577_632.1]) NB577_588.1 (by simp)); replace BK584 := aM (KeepBut.blk hk (g' := gb584) (o := .cells #[.int .i64 t579, .int .i64 1, .string t581, .int .u8 t582] 36 (0, 0)) (by (with_reducible repeat first | apply bkN | apply bkD | apply bkA); refine bkU (cs := #[.int .i64 t579, .int .i64 ji67, .string t581, .int .u8 t582]) ?_ 1 _ rfl; (with_reducible repeat first | apply bkN | apply bkD | apply bkA); refine bkR ?_ NB584_632.1 _; (with_reducible repeat first | apply bkN | apply bkD | apply bkA); refine bkR ?_ NB584_632.1 _; (with_reducible repeat first | apply bkN | apply bkD | apply bkA); refine bkR ?_ NB584_632.1 _; (with_reducible repeat first | apply bkN | apply bkD | apply bkA); refine bkR ?_ NB584_632.1 _; (with_reducible repeat first | apply bkN | apply bkD | apply bkA); exact BK584.1) NB584_588.1 (by simp)); replace BK623 := aM (KeepBut.blk hk (g' := gb623) (o := .cells #[.int .i64 t615, .int .i64 t616, .string t617, .int .u8 t618] 36 (0, 0)) (by apply_rules (transparency := .reducible) [BK623.1, bkN, bkD, bkA, bkR, NB623_584.1, NB623_632.1]) NB623_588.1 (by simp)); replace BK632 := aM (KeepBut.blk hk (g' := gb632) (o := .cells #[.int .i64 t624, .int .i64 t625, .string t626, .int .u8 t627] 36 (0, 0)) (by (with_reducible repeat first | apply bkN | apply bkD | apply bkA); refine bkR ?_ NB632_584.1 _; (with_reducible repeat first | apply bkN | apply bkD | apply bkA); refine put4 (cs := #[.int .i64 0, .int .i64 0, .string (⟨#[]⟩ : ByteArray), .int .u8 0]) ?_ rfl; (with_reducible repeat first | apply bkN | apply bkD | apply bkA); exact BK632.1) NB632_588.1 (by simp)); replace HB := aM (hb); replace HI588 := aM (hi); (try clear hb); (try clear hb2); (try clear hk); (try clear hi)))
  go_ret
  exact ⟨by first | rfl | (simp [errW_none, errW_some] <;> rfl) | (simp only [← hji67]; first | rfl | (simp [errW_none, errW_some] <;> rfl)) | (simp [*, errW_none, errW_some] <;> rfl), by apply_rules (transparency := .reducible) [HB.1, bwA, bwN, bwD, bwS, (IsS53.ge HI588.1), GE577.1, GE584.1, GE623.1, GE632.1]⟩
 replace c5 := Bool.eq_false_iff.mpr c5
 subst c5
 replace H : (some false) = some r := by rw [if_neg (show ¬ (false = true) by decide)] at H; exact H
 obtain rfl := Option.some.inj H
 go_enter Try.func10, Try.ntmps10
 go_wp2_with (first | ((with_reducible refine gate_dst (N := 5) rfl ?_); (try (refine gate_guard (by rfl) ?_; dsimp only)); refine box_event ?hg (N := 5) ?hd (cs := #[.int .i64 a2_0, .int .i32 a2_1, .bool a2_2, .bool a2_3, .bool a2_4, .string a2_5]) (t := 25) ?hr ?_; (case hd => rfl); (case hg => rfl); (case hr => first | (go_simp; done) | (go_simp; rfl)); intro gb577 hg w165 hbox hb; have BK577 := aM (hbox); have GW577 := aM ((by rw [hg]; exact (bwZ (by apply_rules (transparency := .reducible) [HB.1, bwA, bwN, bwD])) : w.heap.size ≤ gb577)); have GE577 := aM ((by rw [hg]; exact (bwZ (by apply_rules (transparency := .reducible) [HB.1, bwA, bwN, bwD])) : w.heap.size ≤ gb577)); replace HB := aM (bwP (by apply_rules (transparency := .reducible) [HB.1, bwA, bwN, bwD]) hb); clear hb hbox hg) | ((with_reducible refine gate_callee (f := 13) rfl ?_); refine goesL_ (some 21) rfl rfl Try.func13 (by kernel_rfl) rfl #[] rfl (by (try simp only [List.map_toArray, List.map_cons, List.map_nil]); first | done | rfl) ?_; (with_reducible refine (bodkinlaw19_binds.calls k  false _ A4.1).mono ?_); rintro e w166 ⟨rfl, hb⟩; refine ⟨_, rfl, ?_⟩; replace BK577 := aM (bkB (g := gb577) (o := .cells #[.int .i64 a2_0, .int .i32 a2_1, .bool a2_2, .bool a2_3, .bool a2_4, .string a2_5] 25 (0, 0)) (by apply_rules (transparency := .reducible) [BK577.1, bkN, bkD, bkA]) hb); replace HB := aM (bwP (by apply_rules (transparency := .reducible) [HB.1, bwA, bwN, bwD, bwS, GE577.1]) hb); (try clear hb); (try clear hb2); (try clear hk); (try clear hi)))
 go_ret
 exact ⟨rfl, by apply_rules (transparency := .reducible) [HB.1, bwA, bwN, bwD, bwS, GE577.1]⟩

end Go.Proofs.Ytgkaiagoogjibaa.PBind
