-- written by pp.py of this session's wip: the kit's print, turned in a few places, over this claim's program
import Derived.Test.YtgkaiagoogjibaaPBindx0
import Derived.Test.YtgkaiagoogjibaaPBindx3
import Derived.Test.YtgkaiagoogjibaaPBindx4
import Derived.Test.YtgkaiagoogjibaaPBindx5
namespace Go.Proofs.Ytgkaiagoogjibaa.PBind
open Go.RowKit Go.Proofs.YtgkaiagoogjibaaW.PrintWords Go.Proofs.YtgkaiagoogjibaaW.PrintLast Go.Proofs.YtgkaiagoogjibaaW.PrintMore
open Go.Proofs.YtgkaiagoogjibaaW.PrintWords renaming blk_drewN → bkN, blk_drew → bkD, blk_alloc → bkA, below_alloc → bwA, pw_below_drewN → bwN, below_drew1 → bwD, below_size → bwZ, below_step → bwP, blk_below → bkB, blk_cell → bkC, blk_frozen → bkF, blk_far → bkR, blk_lt → bkL
open Go.Proofs.YtgkaiagoogjibaaW.PrintWords.Aside0 renaming mk → aM
attribute [local go_sem] max2_int min2_int max_two min_two max_three min_three max_four min_four   -- for this text's walks alone
set_option linter.unusedVariables false
set_option linter.unusedSimpArgs false

/-! ### bind_single: function 33 -/
def bind_single.j0 : Nat → Bool → Int → Int → Bool → Bool → Bool → ByteArray → Int → Int → ByteArray → Int → Option (Int × Int × ByteArray × Int)
  | 0, _, _, _, _, _, _, _, _, _, _, _ => none
  | k + 1, x19, x158000, x158001, x158002, x158003, x158004, x158005, x160000, x160001, x160002, x160003 => if x19 = true then ((unit_Encode.f k (([x158001] : List Int))).bind fun t163 => ((bind_inserts.f t163).bind fun bt164 => (some (bt164.1, bt164.2.1, bt164.2.2.1, bt164.2.2.2)))) else (if x158002 = true then (some (x160000, x160001, x160002, x160003)) else ((bind_metas.f).bind fun t168 => ((bind_in.f k t168 x158001).bind fun t171 => (some (t171, x160001, x160002, x160003)))))
def bind_single.f (k : Nat) (a0_0 : Int) (a0_1 : Int) (a0_2 : Bool) (a0_3 : Bool) (a0_4 : Bool) (a0_5 : ByteArray) : Option (Int × Int × ByteArray × Int) := if a0_0 = 1 then (if a0_2 = true then (bind_single.j0 k false a0_0 a0_1 a0_2 a0_3 a0_4 a0_5 40 1 (⟨#[]⟩ : ByteArray) 0) else (bind_single.j0 k (!a0_3) a0_0 a0_1 a0_2 a0_3 a0_4 a0_5 40 1 (⟨#[]⟩ : ByteArray) 0)) else (if a0_0 = 4 then (if a0_2 = true then (some (40, 1, (⟨#[]⟩ : ByteArray), 0)) else (if a0_3 = true then (some (40, 1, (⟨#[]⟩ : ByteArray), 0)) else ((bind_inserts.f a0_5).bind fun bt172 => (some (bt172.1, bt172.2.1, bt172.2.2.1, bt172.2.2.2))))) else (if a0_0 = 2 then (if a0_3 = true then (if a0_1 = 72 then (some (17, 1, (⟨#[]⟩ : ByteArray), 0)) else (if a0_1 = 63 then (some (17, 1, (⟨#[]⟩ : ByteArray), 0)) else (some (40, 1, (⟨#[]⟩ : ByteArray), 0)))) else ((bind_controls.f).bind fun t176 => ((bind_in.f k t176 a0_1).bind fun t179 => (if t179 = 29 then (if t179 = 1 then (some (t179, 1, (⟨#[9]⟩ : ByteArray), 64)) else (some (t179, 1, (⟨#[]⟩ : ByteArray), 64))) else (if t179 = 1 then (some (t179, 1, (⟨#[9]⟩ : ByteArray), 0)) else (some (t179, 1, (⟨#[]⟩ : ByteArray), 0))))))) else (if a0_0 = 17 then (some (39, 1, a0_5, 0)) else ((bind_named.f a0_0 a0_1 a0_2 a0_3 a0_4 a0_5).bind fun t180 => (some (t180, 1, (⟨#[]⟩ : ByteArray), 0))))))
theorem bind_single.mono_l : ∀ k, (∀ y0 y1 y2 y3 y4 y5 y6 y7 y8 y9 y10, LeO (bind_single.j0 k y0 y1 y2 y3 y4 y5 y6 y7 y8 y9 y10) (bind_single.j0 (k + 1) y0 y1 y2 y3 y4 y5 y6 y7 y8 y9 y10))
  | 0 => fun _ _ _ _ _ _ _ _ _ _ _ r h => by simp [bind_single.j0] at h
  | k + 1 => by
    have ih0 := bind_single.mono_l k
    · intro y0 y1 y2 y3 y4 y5 y6 y7 y8 y9 y10
      unfold bind_single.j0
      repeat' first
      | (with_reducible exact ih0 _ _ _ _ _ _ _ _ _ _ _)
      | (with_reducible exact bind_in.mono _ _ _)
      | (with_reducible exact unit_Encode.mono _ _)
      | (with_reducible exact LeO.refl _)
      | (with_reducible exact LeO.none _)
      | (with_reducible refine LeO.ite ?_ ?_)
      | (with_reducible refine LeO.bind ?_ (fun _ => ?_))
      | exact ih0 _ _ _ _ _ _ _ _ _ _ _
      | exact bind_in.mono _ _ _
      | exact unit_Encode.mono _ _
      | exact LeO.none _
      | refine LeO.ite ?_ ?_
      | refine LeO.bind ?_ (fun _ => ?_)
theorem bind_single.mono : ∀ a0 a1 a2 a3 a4 a5 k, LeO (bind_single.f k a0 a1 a2 a3 a4 a5) (bind_single.f (k + 1) a0 a1 a2 a3 a4 a5) := by
 intro a0 a1 a2 a3 a4 a5 k
 have ih0 := bind_single.mono_l k
 unfold bind_single.f
 repeat' first
   | (with_reducible exact ih0 _ _ _ _ _ _ _ _ _ _ _)
   | (with_reducible exact bind_in.mono _ _ _)
   | (with_reducible exact unit_Encode.mono _ _)
   | (with_reducible exact LeO.refl _)
   | (with_reducible exact LeO.none _)
   | (with_reducible refine LeO.ite ?_ ?_)
   | (with_reducible refine LeO.bind ?_ (fun _ => ?_))
   | exact ih0 _ _ _ _ _ _ _ _ _ _ _
   | exact bind_in.mono _ _ _
   | exact unit_Encode.mono _ _
   | exact LeO.none _
   | refine LeO.ite ?_ ?_
   | refine LeO.bind ?_ (fun _ => ?_)
set_option maxHeartbeats 8000000 in
set_option maxRecDepth 100000 in
theorem bind_single.calls (k : Nat) (a0_0 : Int) (a0_1 : Int) (a0_2 : Bool) (a0_3 : Bool) (a0_4 : Bool) (a0_5 : ByteArray) (r1 : Int) (r2 : Int) (r3 : ByteArray) (r4 : Int) (w : World) (h : bind_single.f k a0_0 a0_1 a0_2 a0_3 a0_4 a0_5 = some (r1, r2, r3, r4)) :
    Calls Try.prog 33 #[.agg #[.int .i64 a0_0, .int .i32 a0_1, .bool a0_2, .bool a0_3, .bool a0_4, .string a0_5]] w fun e w' => e = .returned (.agg #[.int .i64 r1, .int .i64 r2, .string r3, .int .u8 r4]) ∧ Below w.heap.size w w' := by
 have hu25 := Try.underlying25
 have hu36 := Try.underlying36
 have HB := aM (Below.refl w.heap.size w)
 have H : (if a0_0 = 1 then (if a0_2 = true then (bind_single.j0 k false a0_0 a0_1 a0_2 a0_3 a0_4 a0_5 40 1 (⟨#[]⟩ : ByteArray) 0) else (bind_single.j0 k (!a0_3) a0_0 a0_1 a0_2 a0_3 a0_4 a0_5 40 1 (⟨#[]⟩ : ByteArray) 0)) else (if a0_0 = 4 then (if a0_2 = true then (some (40, 1, (⟨#[]⟩ : ByteArray), 0)) else (if a0_3 = true then (some (40, 1, (⟨#[]⟩ : ByteArray), 0)) else ((bind_inserts.f a0_5).bind fun bt172 => (some (bt172.1, bt172.2.1, bt172.2.2.1, bt172.2.2.2))))) else (if a0_0 = 2 then (if a0_3 = true then (if a0_1 = 72 then (some (17, 1, (⟨#[]⟩ : ByteArray), 0)) else (if a0_1 = 63 then (some (17, 1, (⟨#[]⟩ : ByteArray), 0)) else (some (40, 1, (⟨#[]⟩ : ByteArray), 0)))) else ((bind_controls.f).bind fun t176 => ((bind_in.f k t176 a0_1).bind fun t179 => (if t179 = 29 then (if t179 = 1 then (some (t179, 1, (⟨#[9]⟩ : ByteArray), 64)) else (some (t179, 1, (⟨#[]⟩ : ByteArray), 64))) else (if t179 = 1 then (some (t179, 1, (⟨#[9]⟩ : ByteArray), 0)) else (some (t179, 1, (⟨#[]⟩ : ByteArray), 0))))))) else (if a0_0 = 17 then (some (39, 1, a0_5, 0)) else ((bind_named.f a0_0 a0_1 a0_2 a0_3 a0_4 a0_5).bind fun t180 => (some (t180, 1, (⟨#[]⟩ : ByteArray), 0))))))) = some (r1, r2, r3, r4) := h
 clear h
 by_cases c2 : a0_0 = 1
 ·rw [if_pos c2] at H
  have c2b0 : (a0_0 == 1) = true := beq_iff_eq.mpr c2
  have c2b1 : (a0_0 != 1) = false := bne_eq_false_iff_eq.mpr c2
  clear c2
  have HC3 := aM H
  clear H
  go_enter Try.func33, Try.ntmps33
  go_upto_region 5 with (first | ((with_reducible refine gate_dst (N := 1) rfl ?_); refine box_event ?hg (N := 1) ?hd (cs := #[.int .i64 a0_0, .int .i32 a0_1, .bool a0_2, .bool a0_3, .bool a0_4, .string a0_5]) (t := 25) ?hr ?_; (case hd => rfl); (case hg => rfl); (case hr => first | (go_simp; done) | (go_simp; rfl)); intro gb157 hg w4 hbox hb; have BK157 := aM (hbox); have GW157 := aM ((by rw [hg]; exact (bwZ (by apply_rules (transparency := .reducible) [HB.1, bwA, bwN, bwD])) : w.heap.size ≤ gb157)); have GE157 := aM ((by rw [hg]; exact (bwZ (by apply_rules (transparency := .reducible) [HB.1, bwA, bwN, bwD])) : w.heap.size ≤ gb157)); replace HB := aM (bwP (by apply_rules (transparency := .reducible) [HB.1, bwA, bwN, bwD]) hb); clear hb hbox hg) | ((with_reducible refine gate_dst (N := 2) rfl ?_); refine box_event ?hg (N := 2) ?hd (cs := #[.int .i64 0, .int .i64 0, .string (⟨#[]⟩ : ByteArray), .int .u8 0]) (t := 36) ?hr ?_; (case hd => rfl); (case hg => rfl); (case hr => first | (go_simp; done) | (go_simp; rfl)); intro gb158 hg w5 hbox hb; have BK158 := aM (hbox); have GW158 := aM ((by rw [hg]; exact (bwZ (by apply_rules (transparency := .reducible) [HB.1, bwA, bwN, bwD, bwS, GE157.1])) : w.heap.size ≤ gb158)); have GE158 := aM ((by rw [hg]; exact (bwZ (by apply_rules (transparency := .reducible) [HB.1, bwA, bwN, bwD, bwS, GE157.1])) : w.heap.size ≤ gb158)); replace HB := aM (bwP (by apply_rules (transparency := .reducible) [HB.1, bwA, bwN, bwD, bwS, GE157.1]) hb); have NB157_158 := aM ((by rw [hg]; exact Nat.ne_of_lt (bkL (g := gb157) (o := .cells #[.int .i64 a0_0, .int .i32 a0_1, .bool a0_2, .bool a0_3, .bool a0_4, .string a0_5] 25 (0, 0)) (by apply_rules (transparency := .reducible) [BK157.1, bkN, bkD, bkA])) : gb157 ≠ gb158)); have NB158_157 := aM ((by rw [hg]; exact Nat.ne_of_gt (bkL (g := gb157) (o := .cells #[.int .i64 a0_0, .int .i32 a0_1, .bool a0_2, .bool a0_3, .bool a0_4, .string a0_5] 25 (0, 0)) (by apply_rules (transparency := .reducible) [BK157.1, bkN, bkD, bkA])) : gb158 ≠ gb157)); replace BK157 := aM (bkB (g := gb157) (o := .cells #[.int .i64 a0_0, .int .i32 a0_1, .bool a0_2, .bool a0_3, .bool a0_4, .string a0_5] 25 (0, 0)) (by apply_rules (transparency := .reducible) [BK157.1, bkN, bkD, bkA]) hb); clear hb hbox hg) | ((with_reducible refine gate_dst (N := 3) rfl ?_); refine box_event ?hg (N := 3) ?hd (cs := #[.int .i64 0, .int .i64 0, .string (⟨#[]⟩ : ByteArray), .int .u8 0]) (t := 36) ?hr ?_; (case hd => rfl); (case hg => rfl); (case hr => first | (go_simp; done) | (go_simp; rfl)); intro gb159 hg w6 hbox hb; have BK159 := aM (hbox); have GW159 := aM ((by rw [hg]; exact (bwZ (by apply_rules (transparency := .reducible) [HB.1, bwA, bwN, bwD, bwS, GE157.1, GE158.1])) : w.heap.size ≤ gb159)); have GE159 := aM ((by rw [hg]; exact (bwZ (by apply_rules (transparency := .reducible) [HB.1, bwA, bwN, bwD, bwS, GE157.1, GE158.1])) : w.heap.size ≤ gb159)); replace HB := aM (bwP (by apply_rules (transparency := .reducible) [HB.1, bwA, bwN, bwD, bwS, GE157.1, GE158.1]) hb); have NB157_159 := aM ((by rw [hg]; exact Nat.ne_of_lt (bkL (g := gb157) (o := .cells #[.int .i64 a0_0, .int .i32 a0_1, .bool a0_2, .bool a0_3, .bool a0_4, .string a0_5] 25 (0, 0)) (by apply_rules (transparency := .reducible) [BK157.1, bkN, bkD, bkA])) : gb157 ≠ gb159)); have NB159_157 := aM ((by rw [hg]; exact Nat.ne_of_gt (bkL (g := gb157) (o := .cells #[.int .i64 a0_0, .int .i32 a0_1, .bool a0_2, .bool a0_3, .bool a0_4, .string a0_5] 25 (0, 0)) (by apply_rules (transparency := .reducible) [BK157.1, bkN, bkD, bkA])) : gb159 ≠ gb157)); replace BK157 := aM (bkB (g := gb157) (o := .cells #[.int .i64 a0_0, .int .i32 a0_1, .bool a0_2, .bool a0_3, .bool a0_4, .string a0_5] 25 (0, 0)) (by apply_rules (transparency := .reducible) [BK157.1, bkN, bkD, bkA]) hb); have NB158_159 := aM ((by rw [hg]; exact Nat.ne_of_lt (bkL (g := gb158) (o := .cells #[.int .i64 0, .int .i64 0, .string (⟨#[]⟩ : ByteArray), .int .u8 0] 36 (0, 0)) (by apply_rules (transparency := .reducible) [BK158.1, bkN, bkD, bkA])) : gb158 ≠ gb159)); have NB159_158 := aM ((by rw [hg]; exact Nat.ne_of_gt (bkL (g := gb158) (o := .cells #[.int .i64 0, .int .i64 0, .string (⟨#[]⟩ : ByteArray), .int .u8 0] 36 (0, 0)) (by apply_rules (transparency := .reducible) [BK158.1, bkN, bkD, bkA])) : gb159 ≠ gb158)); replace BK158 := aM (bkB (g := gb158) (o := .cells #[.int .i64 0, .int .i64 0, .string (⟨#[]⟩ : ByteArray), .int .u8 0] 36 (0, 0)) (by apply_rules (transparency := .reducible) [BK158.1, bkN, bkD, bkA]) hb); clear hb hbox hg; have hnb7 := NB159_157.1; have hnc7 := NB157_159.1; have hnb8 := NB159_158.1; have hnc8 := NB158_159.1; obtain ⟨z9_0, z9_1, z9_2, z9_3, z9_4, z9_5, z9_6, z9_7⟩ := bx4 BK159.1; have hnb10 := NB157_158.1; have hnc10 := NB158_157.1; obtain ⟨z11_0, z11_1, z11_2, z11_3, z11_4, z11_5, z11_6, z11_7, z11_8, z11_9, z11_10, z11_11⟩ := bx6 BK157.1))
  (try simp only [Act.put, List.setIfInBounds_toArray, List.set_cons_zero, List.set_cons_succ])
  go_cut [19] (fun v19 wc => ∃ (kq : Nat) (x19_2 : Bool), v19 = .bool x19_2 ∧ Aside0 (bind_single.j0 kq x19_2 a0_0 a0_1 a0_2 a0_3 a0_4 a0_5 40 1 (⟨#[]⟩ : ByteArray) 0 = some (r1, r2, r3, r4)) ∧ Aside0 (kq ≤ k) ∧ Aside0 (wc.heap[gb157]? = some (.cells #[.int .i64 a0_0, .int .i32 a0_1, .bool a0_2, .bool a0_3, .bool a0_4, .string a0_5] 25 (0, 0))) ∧ Aside0 (wc.heap[gb158]? = some (.cells #[.int .i64 0, .int .i64 0, .string (⟨#[]⟩ : ByteArray), .int .u8 0] 36 (0, 0))) ∧ Aside0 (wc.heap[gb159]? = some (.cells #[.int .i64 40, .int .i64 1, .string (⟨#[]⟩ : ByteArray), .int .u8 0] 36 (0, 0))) ∧ Aside0 (Below w.heap.size w wc))
  case first =>
   have H := HC3.1
   clear HC3
   by_cases c12 : a0_2 = true
   ·subst c12
    replace H : (bind_single.j0 k false a0_0 a0_1 true a0_3 a0_4 a0_5 40 1 (⟨#[]⟩ : ByteArray) 0) = some (r1, r2, r3, r4) := by rw [if_pos rfl] at H; exact H
    have H' := aM H
    clear H
    have hnb13 := NB157_158.1
    have hnc13 := NB158_157.1
    have hnb14 := NB157_159.1
    have hnc14 := NB159_157.1
    obtain ⟨z15_0, z15_1, z15_2, z15_3, z15_4, z15_5, z15_6, z15_7, z15_8, z15_9, z15_10, z15_11⟩ := bx6 BK157.1
    go_wp2
    go_meet
    case rel => exact ⟨_, (false), rfl, H', ⟨by omega⟩, ⟨by apply_rules (transparency := .reducible) [BK157.1, bkN, bkD, bkA, bkR, NB157_159.1]⟩, ⟨by apply_rules (transparency := .reducible) [BK158.1, bkN, bkD, bkA, bkR, NB158_159.1]⟩, ⟨by (with_reducible repeat first | apply bkN | apply bkD | apply bkA); refine put4 (cs := #[.int .i64 0, .int .i64 0, .string (⟨#[]⟩ : ByteArray), .int .u8 0]) ?_ rfl; (with_reducible repeat first | apply bkN | apply bkD | apply bkA); exact BK159.1⟩, ⟨by apply_rules (transparency := .reducible) [HB.1, bwA, bwN, bwD, bwS, GE157.1, GE158.1, GE159.1]⟩⟩
   replace c12 := Bool.eq_false_iff.mpr c12
   subst c12
   replace H : (bind_single.j0 k (!a0_3) a0_0 a0_1 false a0_3 a0_4 a0_5 40 1 (⟨#[]⟩ : ByteArray) 0) = some (r1, r2, r3, r4) := by rw [if_neg (show ¬ (false = true) by decide)] at H; exact H
   have H' := aM H
   clear H
   have hnb16 := NB157_158.1
   have hnc16 := NB158_157.1
   have hnb17 := NB157_159.1
   have hnc17 := NB159_157.1
   obtain ⟨z18_0, z18_1, z18_2, z18_3, z18_4, z18_5, z18_6, z18_7, z18_8, z18_9, z18_10, z18_11⟩ := bx6 BK157.1
   go_wp2
   go_meet
   case rel => exact ⟨_, (!a0_3), rfl, H', ⟨by omega⟩, ⟨by apply_rules (transparency := .reducible) [BK157.1, bkN, bkD, bkA, bkR, NB157_159.1]⟩, ⟨by apply_rules (transparency := .reducible) [BK158.1, bkN, bkD, bkA, bkR, NB158_159.1]⟩, ⟨by (with_reducible repeat first | apply bkN | apply bkD | apply bkA); refine put4 (cs := #[.int .i64 0, .int .i64 0, .string (⟨#[]⟩ : ByteArray), .int .u8 0]) ?_ rfl; (with_reducible repeat first | apply bkN | apply bkD | apply bkA); exact BK159.1⟩, ⟨by apply_rules (transparency := .reducible) [HB.1, bwA, bwN, bwD, bwS, GE157.1, GE158.1, GE159.1]⟩⟩
  clear HC3
  try clear c2
  try clear c2b0
  try clear c2b1
  try clear z11_0 z11_1 z11_2 z11_3 z11_4 z11_5 z11_6 z11_7 z11_8 z11_9 z11_10 z11_11
  try clear z9_0 z9_1 z9_2 z9_3 z9_4 z9_5 z9_6 z9_7
  obtain ⟨kq, x19_2, rfl, HA, HJ2, BK157, BK158, BK159, HB⟩ := hcut
  obtain _ | kj2 := kq
  ·exact absurd HA.1 (by simp [bind_single.j0])
  have H := HA.1
  clear HA
  simp only [bind_single.j0] at H
  by_cases c19 : x19_2 = true
  ·subst c19
   replace H : ((unit_Encode.f kj2 (([a0_1] : List Int))).bind fun t163 => ((bind_inserts.f t163).bind fun bt164 => (some (bt164.1, bt164.2.1, bt164.2.2.1, bt164.2.2.2)))) = some (r1, r2, r3, r4) := by rw [if_pos rfl] at H; exact H
   obtain ⟨y160, hy160⟩ : ∃ y_ : List Int, y_ = (([a0_1] : List Int)) := ⟨_, rfl⟩
   replace H : ((unit_Encode.f kj2 y160).bind fun t163 => ((bind_inserts.f t163).bind fun bt164 => (some (bt164.1, bt164.2.1, bt164.2.2.1, bt164.2.2.2)))) = some (r1, r2, r3, r4) := by first | (rw [hy160]; with_reducible exact H) | (have H2_ := (Option.bind_some _ _).symm.trans H; rw [hy160]; with_reducible exact H2_) | (have H2_ := (Option.bind_some _ _).symm.trans H; with_reducible exact H2_) | with_reducible exact H | (rw [hy160]; exact H) | exact H
   have Ny160 := aM hy160
   clear hy160
   replace H := Option.bind_eq_some_iff.mp H
   obtain ⟨t163, A200, H⟩ := H
   replace H : ((bind_inserts.f t163).bind fun bt164 => (some (bt164.1, bt164.2.1, bt164.2.2.1, bt164.2.2.2))) = some (r1, r2, r3, r4) := H
   have A20 := aM A200
   clear A200
   replace H := Option.bind_eq_some_iff.mp H
   obtain ⟨⟨t164, t165, t166, t167⟩, A210, H⟩ := H
   replace H : (some (t164, t165, t166, t167)) = some (r1, r2, r3, r4) := H
   have A21 := aM A210
   clear A210
   simp only [Option.some.injEq, Prod.mk.injEq] at H
   obtain ⟨rfl, rfl, rfl, rfl⟩ := H
   have hnb22 := NB157_158.1
   have hnc22 := NB158_157.1
   have hnb23 := NB157_159.1
   have hnc23 := NB159_157.1
   obtain ⟨z24_0, z24_1, z24_2, z24_3, z24_4, z24_5, z24_6, z24_7, z24_8, z24_9, z24_10, z24_11⟩ := bx6 BK157.1
   go_wp2_with (first | ((with_reducible refine gate_dst (N := 22) rfl ?_); refine Kd.R_lit (Kd.int .i32) _ 21 ?hg (N := 22) ?hd (xs := ([a0_1] : List Int)) (inner := [.int .i32 a0_1]) (ok := fun _ => True) (okp := fun _ => True) ?hr ?hp (fun _ hk => hk) trivial (Below.refl _ _) (Nat.le_refl _) (by simp) ?_; (case hd => rfl); (case hg => rfl); (case hr => first | (go_simp; done) | (go_simp; rfl)); (case hp => exact (Reps.one (show Kd.M (Kd.int .i32) _ _ _ a0_1 [.int .i32 a0_1] from rfl) (Reps.none _ _))); intro v161 w25 ho26 hb hg_ hnew_; clear hg_ hnew_; (first | rw [← Ny160.1] at ho26 | (simp only [Int.reduceToNat] at ho26; rw [← Ny160.1] at ho26)); have HO162 := aM (Kd.R_lower ho26 (bwZ (by apply_rules (transparency := .reducible) [HB.1, bwA, bwN, bwD, bwS, GE157.1, GE158.1, GE159.1]))); replace BK157 := aM (bkB (g := gb157) (o := .cells #[.int .i64 a0_0, .int .i32 a0_1, .bool a0_2, .bool a0_3, .bool a0_4, .string a0_5] 25 (0, 0)) (by apply_rules (transparency := .reducible) [BK157.1, bkN, bkD, bkA]) hb); replace BK158 := aM (bkB (g := gb158) (o := .cells #[.int .i64 0, .int .i64 0, .string (⟨#[]⟩ : ByteArray), .int .u8 0] 36 (0, 0)) (by apply_rules (transparency := .reducible) [BK158.1, bkN, bkD, bkA]) hb); replace BK159 := aM (bkB (g := gb159) (o := .cells #[.int .i64 40, .int .i64 1, .string (⟨#[]⟩ : ByteArray), .int .u8 0] 36 (0, 0)) (by apply_rules (transparency := .reducible) [BK159.1, bkN, bkD, bkA]) hb); replace HB := aM (bwP (by apply_rules (transparency := .reducible) [HB.1, bwA, bwN, bwD, bwS, GE157.1, GE158.1, GE159.1]) hb); clear hb ho26; obtain ⟨Ao27, co27, eo27⟩ := Kd.R_slice HO162.1; subst eo27) | ((with_reducible refine gate_callee (f := 44) rfl ?_); refine goesL_ (some 23) rfl rfl Try.func44 (by kernel_rfl) rfl #[.slice Ao27 y160.length co27] rfl (by (try simp only [List.map_toArray, List.map_cons, List.map_nil]); first | done | rfl) ?_; (with_reducible refine (unit_Encode.calls kj2 _ _ y160 t163 _ ?side1 ?side2 A20.1).mono ?_); (case side1 => repeat (first | exact (Kd.R_reads' HO162.1).2.2 | (with_reducible refine Kd.C_alloc ?_ _) | (with_reducible refine Kd.C_drewN ?_ _) | (with_reducible refine Kd.C_drew ?_))); (case side2 => exact (Kd.R_reads' HO162.1).2.1); rintro e w28 ⟨rfl, hb⟩; refine ⟨_, rfl, ?_⟩; replace HO162 := aM (Kd.R_below (by (with_reducible repeat first | apply Kd.R_alloc | apply Kd.R_drewN | apply Kd.R_drew); exact HO162.1) hb); replace BK157 := aM (bkB (g := gb157) (o := .cells #[.int .i64 a0_0, .int .i32 a0_1, .bool a0_2, .bool a0_3, .bool a0_4, .string a0_5] 25 (0, 0)) (by apply_rules (transparency := .reducible) [BK157.1, bkN, bkD, bkA]) hb); replace BK158 := aM (bkB (g := gb158) (o := .cells #[.int .i64 0, .int .i64 0, .string (⟨#[]⟩ : ByteArray), .int .u8 0] 36 (0, 0)) (by apply_rules (transparency := .reducible) [BK158.1, bkN, bkD, bkA]) hb); replace BK159 := aM (bkB (g := gb159) (o := .cells #[.int .i64 40, .int .i64 1, .string (⟨#[]⟩ : ByteArray), .int .u8 0] 36 (0, 0)) (by apply_rules (transparency := .reducible) [BK159.1, bkN, bkD, bkA]) hb); replace HB := aM (bwP (by apply_rules (transparency := .reducible) [HB.1, bwA, bwN, bwD, bwS, GE157.1, GE158.1, GE159.1]) hb); (try clear hb); (try clear hb2); (try clear hk); (try clear hi)) | ((with_reducible refine gate_callee (f := 43) rfl ?_); refine goesL_ (some 24) rfl rfl Try.func43 (by kernel_rfl) rfl #[.string t163] rfl (by (try simp only [List.map_toArray, List.map_cons, List.map_nil]); first | done | rfl) ?_; (with_reducible refine (bind_inserts.calls t163 t164 t165 t166 t167 _ A21.1).mono ?_); rintro e w29 ⟨rfl, hb⟩; refine ⟨_, rfl, ?_⟩; replace HO162 := aM (Kd.R_below (by (with_reducible repeat first | apply Kd.R_alloc | apply Kd.R_drewN | apply Kd.R_drew); exact HO162.1) hb); replace BK157 := aM (bkB (g := gb157) (o := .cells #[.int .i64 a0_0, .int .i32 a0_1, .bool a0_2, .bool a0_3, .bool a0_4, .string a0_5] 25 (0, 0)) (by apply_rules (transparency := .reducible) [BK157.1, bkN, bkD, bkA]) hb); replace BK158 := aM (bkB (g := gb158) (o := .cells #[.int .i64 0, .int .i64 0, .string (⟨#[]⟩ : ByteArray), .int .u8 0] 36 (0, 0)) (by apply_rules (transparency := .reducible) [BK158.1, bkN, bkD, bkA]) hb); replace BK159 := aM (bkB (g := gb159) (o := .cells #[.int .i64 40, .int .i64 1, .string (⟨#[]⟩ : ByteArray), .int .u8 0] 36 (0, 0)) (by apply_rules (transparency := .reducible) [BK159.1, bkN, bkD, bkA]) hb); replace HB := aM (bwP (by apply_rules (transparency := .reducible) [HB.1, bwA, bwN, bwD, bwS, GE157.1, GE158.1, GE159.1]) hb); (try clear hb); (try clear hb2); (try clear hk); (try clear hi); have hnb30 := NB159_158.1; have hnc30 := NB158_159.1; obtain ⟨z31_0, z31_1, z31_2, z31_3, z31_4, z31_5, z31_6, z31_7⟩ := bx4 BK159.1; obtain ⟨z32_0, z32_1, z32_2, z32_3, z32_4, z32_5, z32_6, z32_7⟩ := bx4 BK158.1))
   refine bodyPost_ret (results_cell_row rfl _ _ gb158 36 #[.int .i64 t164, .int .i64 t165, .string t166, .int .u8 t167] (0, 0) _ rfl (by (with_reducible repeat first | apply bkN | apply bkD | apply bkA); refine put4 (cs := #[.int .i64 0, .int .i64 0, .string (⟨#[]⟩ : ByteArray), .int .u8 0]) ?_ rfl; (with_reducible repeat first | apply bkN | apply bkD | apply bkA); refine bkR ?_ NB158_159.1 _; (with_reducible repeat first | apply bkN | apply bkD | apply bkA); refine bkR ?_ NB158_159.1 _; (with_reducible repeat first | apply bkN | apply bkD | apply bkA); refine bkR ?_ NB158_159.1 _; (with_reducible repeat first | apply bkN | apply bkD | apply bkA); refine bkR ?_ NB158_159.1 _; (with_reducible repeat first | apply bkN | apply bkD | apply bkA); exact BK158.1) Try.underlying36 rfl (by kernel_rfl)) rfl ?_
   exact ⟨rfl, by apply_rules (transparency := .reducible) [HB.1, bwA, bwN, bwD, bwS, GE157.1, GE158.1, GE159.1]⟩
  replace c19 := Bool.eq_false_iff.mpr c19
  subst c19
  replace H : (if a0_2 = true then (some (40, 1, (⟨#[]⟩ : ByteArray), 0)) else ((bind_metas.f).bind fun t168 => ((bind_in.f kj2 t168 a0_1).bind fun t171 => (some (t171, 1, (⟨#[]⟩ : ByteArray), 0))))) = some (r1, r2, r3, r4) := by rw [if_neg (show ¬ (false = true) by decide)] at H; exact H
  by_cases c33 : a0_2 = true
  ·subst c33
   replace H : (some (40, 1, (⟨#[]⟩ : ByteArray), 0)) = some (r1, r2, r3, r4) := by rw [if_pos rfl] at H; exact H
   simp only [Option.some.injEq, Prod.mk.injEq] at H
   obtain ⟨rfl, rfl, rfl, rfl⟩ := H
   have hnb34 := NB157_158.1
   have hnc34 := NB158_157.1
   have hnb35 := NB157_159.1
   have hnc35 := NB159_157.1
   obtain ⟨z36_0, z36_1, z36_2, z36_3, z36_4, z36_5, z36_6, z36_7, z36_8, z36_9, z36_10, z36_11⟩ := bx6 BK157.1
   have hnb37 := NB159_158.1
   have hnc37 := NB158_159.1
   obtain ⟨z38_0, z38_1, z38_2, z38_3, z38_4, z38_5, z38_6, z38_7⟩ := bx4 BK159.1
   obtain ⟨z39_0, z39_1, z39_2, z39_3, z39_4, z39_5, z39_6, z39_7⟩ := bx4 BK158.1
   go_wp2
   refine bodyPost_ret (results_cell_row rfl _ _ gb158 36 #[.int .i64 40, .int .i64 1, .string (⟨#[]⟩ : ByteArray), .int .u8 0] (0, 0) _ rfl (by (with_reducible repeat first | apply bkN | apply bkD | apply bkA); refine put4 (cs := #[.int .i64 0, .int .i64 0, .string (⟨#[]⟩ : ByteArray), .int .u8 0]) ?_ rfl; (with_reducible repeat first | apply bkN | apply bkD | apply bkA); exact BK158.1) Try.underlying36 rfl (by kernel_rfl)) rfl ?_
   exact ⟨rfl, by apply_rules (transparency := .reducible) [HB.1, bwA, bwN, bwD, bwS, GE157.1, GE158.1, GE159.1]⟩
  replace c33 := Bool.eq_false_iff.mpr c33
  subst c33
  replace H : ((bind_metas.f).bind fun t168 => ((bind_in.f kj2 t168 a0_1).bind fun t171 => (some (t171, 1, (⟨#[]⟩ : ByteArray), 0)))) = some (r1, r2, r3, r4) := by rw [if_neg (show ¬ (false = true) by decide)] at H; exact H
  replace H := Option.bind_eq_some_iff.mp H
  obtain ⟨t168, A400, H⟩ := H
  replace H : ((bind_in.f kj2 t168 a0_1).bind fun t171 => (some (t171, 1, (⟨#[]⟩ : ByteArray), 0))) = some (r1, r2, r3, r4) := H
  have A40 := aM A400
  clear A400
  replace H := Option.bind_eq_some_iff.mp H
  obtain ⟨t171, A410, H⟩ := H
  replace H : (some (t171, 1, (⟨#[]⟩ : ByteArray), 0)) = some (r1, r2, r3, r4) := H
  have A41 := aM A410
  clear A410
  simp only [Option.some.injEq, Prod.mk.injEq] at H
  obtain ⟨rfl, rfl, rfl, rfl⟩ := H
  have hnb42 := NB157_158.1
  have hnc42 := NB158_157.1
  have hnb43 := NB157_159.1
  have hnc43 := NB159_157.1
  obtain ⟨z44_0, z44_1, z44_2, z44_3, z44_4, z44_5, z44_6, z44_7, z44_8, z44_9, z44_10, z44_11⟩ := bx6 BK157.1
  try go_wp2
  replace BK157 := aM (bkD BK157.1)
  replace BK158 := aM (bkD BK158.1)
  replace BK159 := aM (bkD BK159.1)
  replace HB := aM (bwD HB.1)
  refine start_ (n := 6) (S := fun w' => w'.cell? ⟨gb157, 0, none⟩ = some (.int .i64 a0_0) ∧ w'.cell? ⟨gb157, 1, none⟩ = some (.int .i32 a0_1) ∧ w'.cell? ⟨gb157, 2, none⟩ = some (.bool false) ∧ w'.cell? ⟨gb157, 3, none⟩ = some (.bool a0_3) ∧ w'.cell? ⟨gb157, 4, none⟩ = some (.bool a0_4) ∧ w'.cell? ⟨gb157, 5, none⟩ = some (.string a0_5)) (ds := []) #[false, false, false, false, false, false] (by kernel_rfl) rfl rfl ⟨(bkC BK157.1 0).trans rfl, (bkC BK157.1 1).trans rfl, (bkC BK157.1 2).trans rfl, (bkC BK157.1 3).trans rfl, (bkC BK157.1 4).trans rfl, (bkC BK157.1 5).trans rfl⟩ (fun hHeld => ?_)
  generalize wc.drew = w45 at BK157 BK158 BK159 HB hHeld ⊢
  refine pure_ (i := 1) (N := some 29) (v := ?_) (a' := ?_) #[false, true, false, false, false, false] rfl rfl (by kernel_rfl) (fun _ _ _ h => h) (Or.inl ⟨by rfl, ?_⟩) ?_ ?_
  rotate_left
  ·intro w'
   go_simp
   with_reducible rfl
  rotate_left
  ·simp only [Act.put, List.setIfInBounds_toArray, List.set_cons_zero, List.set_cons_succ, i64_w, i32_w]
   rfl
  refine take_ (i := 2) (N := some 30) (v := ?_) (a' := ?_) #[false, true, true, false, false, false] rfl rfl (by kernel_rfl) (fun _ _ _ h => h) (Or.inl ⟨by rfl, ?_⟩) hHeld ?_ ?_
  rotate_left
  ·rintro w' ⟨s0, s1, s2, s3, s4, s5⟩
   go_simp
   with_reducible rfl
  rotate_left
  ·simp only [Act.put, List.setIfInBounds_toArray, List.set_cons_zero, List.set_cons_succ, i64_w, i32_w]
   rfl
  refine one_ (i := 0) (N := some 28) #[true, true, true, false, false, false] rfl rfl (by kernel_rfl) (by decide) (fun K hK => ?_)
  refine goes_ Try.func46 (by kernel_rfl) rfl #[] (by rfl) rfl rfl (by (try simp only [List.map_toArray, List.map_cons, List.map_nil]); first | done | rfl) ?_
  with_reducible refine (bind_metas.calls  t168 _ A40.1).mono ?_
  rintro e w46 ⟨v169, rfl, ho0, hb⟩
  refine ⟨_, rfl, ?_⟩
  have HO170 := aM (Kd.R_lower ho0 (bwZ (by apply_rules (transparency := .reducible) [HB.1, bwA, bwN, bwD, bwS, GE157.1, GE158.1, GE159.1])))
  replace BK157 := aM (bkB (g := gb157) (o := .cells #[.int .i64 a0_0, .int .i32 a0_1, .bool false, .bool a0_3, .bool a0_4, .string a0_5] 25 (0, 0)) (by apply_rules (transparency := .reducible) [BK157.1, bkN, bkD, bkA]) hb)
  replace BK158 := aM (bkB (g := gb158) (o := .cells #[.int .i64 0, .int .i64 0, .string (⟨#[]⟩ : ByteArray), .int .u8 0] 36 (0, 0)) (by apply_rules (transparency := .reducible) [BK158.1, bkN, bkD, bkA]) hb)
  replace BK159 := aM (bkB (g := gb159) (o := .cells #[.int .i64 40, .int .i64 1, .string (⟨#[]⟩ : ByteArray), .int .u8 0] 36 (0, 0)) (by apply_rules (transparency := .reducible) [BK159.1, bkN, bkD, bkA]) hb)
  replace HB := aM (bwP (by apply_rules (transparency := .reducible) [HB.1, bwA, bwN, bwD, bwS, GE157.1, GE158.1, GE159.1]) hb)
  (try clear hb)
  (try clear ho0)
  obtain ⟨Ao47, co47, eo47⟩ := Kd.R_slice HO170.1
  (first | subst eo47 | (injection eo47 with f1_ f2_ f3_; have f4_ := f1_.symm; have f5_ := f3_.symm; clear f1_ f2_ f3_; subst f4_; subst f5_))
  refine hK.out _ _ ⟨(bkC BK157.1 0).trans rfl, (bkC BK157.1 1).trans rfl, (bkC BK157.1 2).trans rfl, (bkC BK157.1 3).trans rfl, (bkC BK157.1 4).trans rfl, (bkC BK157.1 5).trans rfl⟩ (fun hHeld => ?_)
  clear hK K
  refine norm_ (a' := ?_) ?_ ?_
  rotate_left
  ·show Act.put _ (some 28) _ = _
   simp only [Act.put, List.setIfInBounds_toArray, List.set_cons_zero, List.set_cons_succ, i64_w, i32_w]
   rfl
  refine one_ (i := 3) (N := some 31) #[true, true, true, true, false, false] rfl rfl (by kernel_rfl) (by decide) (fun K hK => ?_)
  refine goes_ Try.func45 (by kernel_rfl) rfl #[.slice Ao47 t168.length co47, .int .i32 a0_1] (by rfl) rfl rfl (by (try simp only [List.map_toArray, List.map_cons, List.map_nil]); first | done | rfl) ?_
  with_reducible refine (bind_in.calls kj2 _ _ t168 a0_1 t171 _ ?side1 ?side2 A41.1).mono ?_
  (case side1 => repeat (first | exact (Kd.R_reads' HO170.1).2.2 | (with_reducible refine Kd.C_alloc ?_ _) | (with_reducible refine Kd.C_drewN ?_ _) | (with_reducible refine Kd.C_drew ?_)))
  (case side2 => exact (Kd.R_reads' HO170.1).2.1)
  rintro e w48 ⟨rfl, hb⟩
  refine ⟨_, rfl, ?_⟩
  replace HO170 := aM (Kd.R_below (by (with_reducible repeat first | apply Kd.R_alloc | apply Kd.R_drewN | apply Kd.R_drew); exact HO170.1) hb)
  replace BK157 := aM (bkB (g := gb157) (o := .cells #[.int .i64 a0_0, .int .i32 a0_1, .bool false, .bool a0_3, .bool a0_4, .string a0_5] 25 (0, 0)) (by apply_rules (transparency := .reducible) [BK157.1, bkN, bkD, bkA]) hb)
  replace BK158 := aM (bkB (g := gb158) (o := .cells #[.int .i64 0, .int .i64 0, .string (⟨#[]⟩ : ByteArray), .int .u8 0] 36 (0, 0)) (by apply_rules (transparency := .reducible) [BK158.1, bkN, bkD, bkA]) hb)
  replace BK159 := aM (bkB (g := gb159) (o := .cells #[.int .i64 40, .int .i64 1, .string (⟨#[]⟩ : ByteArray), .int .u8 0] 36 (0, 0)) (by apply_rules (transparency := .reducible) [BK159.1, bkN, bkD, bkA]) hb)
  replace HB := aM (bwP (by apply_rules (transparency := .reducible) [HB.1, bwA, bwN, bwD, bwS, GE157.1, GE158.1, GE159.1]) hb)
  (try clear hb)
  refine hK.out _ _ ⟨(bkC BK157.1 0).trans rfl, (bkC BK157.1 1).trans rfl, (bkC BK157.1 2).trans rfl, (bkC BK157.1 3).trans rfl, (bkC BK157.1 4).trans rfl, (bkC BK157.1 5).trans rfl⟩ (fun hHeld => ?_)
  clear hK K
  refine norm_ (a' := ?_) ?_ ?_
  rotate_left
  ·show Act.put _ (some 31) _ = _
   simp only [Act.put, List.setIfInBounds_toArray, List.set_cons_zero, List.set_cons_succ, i64_w, i32_w]
   rfl
  refine pure_ (i := 4) (N := some 32) (v := ?_) (a' := ?_) #[true, true, true, true, true, false] rfl rfl (by kernel_rfl) (fun _ _ _ h => h) (Or.inl ⟨by rfl, ?_⟩) ?_ ?_
  rotate_left
  ·intro w'
   go_simp
   with_reducible rfl
  rotate_left
  ·simp only [Act.put, List.setIfInBounds_toArray, List.set_cons_zero, List.set_cons_succ, i64_w, i32_w]
   rfl
  refine one_ (i := 5) (N := none) #[true, true, true, true, true, true] rfl rfl (by kernel_rfl) (by decide) (fun K hK => ?_)
  have hs49 : w48.cell? ⟨gb159, 0, none⟩ = some (.int .i64 40) := (bkC BK159.1 0).trans rfl
  have hfs49 := bkF BK159.1 0
  have hns49_0 := NB157_159.1
  have hns49_1 := NB158_159.1
  have hms49_0 := NB159_157.1
  have hms49_1 := NB159_158.1
  refine skip_ (w1 := ?_) (by rfl) rfl ?_ ?_
  rotate_left
  ·go_simp
   rfl
  refine hK.out _ _ ⟨((cell_far (p := ⟨gb159, _, none⟩) NB157_159.1 _).trans (hHeld.1)), ((cell_far (p := ⟨gb159, _, none⟩) NB157_159.1 _).trans (hHeld.2.1)), ((cell_far (p := ⟨gb159, _, none⟩) NB157_159.1 _).trans (hHeld.2.2.1)), ((cell_far (p := ⟨gb159, _, none⟩) NB157_159.1 _).trans (hHeld.2.2.2.1)), ((cell_far (p := ⟨gb159, _, none⟩) NB157_159.1 _).trans (hHeld.2.2.2.2.1)), ((cell_far (p := ⟨gb159, _, none⟩) NB157_159.1 _).trans (hHeld.2.2.2.2.2))⟩ (fun hHeld => ?_)
  clear hK K
  refine done_ (by kernel_rfl) ?_
  have hnb50 := NB159_158.1
  have hnc50 := NB158_159.1
  obtain ⟨z51_0, z51_1, z51_2, z51_3, z51_4, z51_5, z51_6, z51_7⟩ := bx4 BK159.1
  obtain ⟨z52_0, z52_1, z52_2, z52_3, z52_4, z52_5, z52_6, z52_7⟩ := bx4 BK158.1
  try go_wp2
  refine bodyPost_ret (results_cell_row rfl _ _ gb158 36 #[.int .i64 t171, .int .i64 1, .string (⟨#[]⟩ : ByteArray), .int .u8 0] (0, 0) _ rfl (by (with_reducible repeat first | apply bkN | apply bkD | apply bkA); refine put4 (cs := #[.int .i64 0, .int .i64 0, .string (⟨#[]⟩ : ByteArray), .int .u8 0]) ?_ rfl; (with_reducible repeat first | apply bkN | apply bkD | apply bkA); refine bkR ?_ NB158_159.1 _; (with_reducible repeat first | apply bkN | apply bkD | apply bkA); exact BK158.1) Try.underlying36 rfl (by kernel_rfl)) rfl ?_
  exact ⟨rfl, by apply_rules (transparency := .reducible) [HB.1, bwA, bwN, bwD, bwS, GE157.1, GE158.1, GE159.1]⟩
 rw [if_neg c2] at H
 have c2b0 : (a0_0 == 1) = false := beq_eq_false_iff_ne.mpr c2
 have c2b1 : (a0_0 != 1) = true := bne_iff_ne.mpr c2
 by_cases c53 : a0_0 = 4
 ·rw [if_pos c53] at H
  have c53b0 : (a0_0 == 4) = true := beq_iff_eq.mpr c53
  have c53b1 : (a0_0 != 4) = false := bne_eq_false_iff_eq.mpr c53
  clear c53
  by_cases c54 : a0_2 = true
  ·subst c54
   replace H : (some (40, 1, (⟨#[]⟩ : ByteArray), 0)) = some (r1, r2, r3, r4) := by rw [if_pos rfl] at H; exact H
   simp only [Option.some.injEq, Prod.mk.injEq] at H
   obtain ⟨rfl, rfl, rfl, rfl⟩ := H
   go_enter Try.func33, Try.ntmps33
   go_wp2_with (first | ((with_reducible refine gate_dst (N := 1) rfl ?_); refine box_event ?hg (N := 1) ?hd (cs := #[.int .i64 a0_0, .int .i32 a0_1, .bool true, .bool a0_3, .bool a0_4, .string a0_5]) (t := 25) ?hr ?_; (case hd => rfl); (case hg => rfl); (case hr => first | (go_simp; done) | (go_simp; rfl)); intro gb157 hg w55 hbox hb; have BK157 := aM (hbox); have GW157 := aM ((by rw [hg]; exact (bwZ (by apply_rules (transparency := .reducible) [HB.1, bwA, bwN, bwD])) : w.heap.size ≤ gb157)); have GE157 := aM ((by rw [hg]; exact (bwZ (by apply_rules (transparency := .reducible) [HB.1, bwA, bwN, bwD])) : w.heap.size ≤ gb157)); replace HB := aM (bwP (by apply_rules (transparency := .reducible) [HB.1, bwA, bwN, bwD]) hb); clear hb hbox hg) | ((with_reducible refine gate_dst (N := 2) rfl ?_); refine box_event ?hg (N := 2) ?hd (cs := #[.int .i64 0, .int .i64 0, .string (⟨#[]⟩ : ByteArray), .int .u8 0]) (t := 36) ?hr ?_; (case hd => rfl); (case hg => rfl); (case hr => first | (go_simp; done) | (go_simp; rfl)); intro gb158 hg w56 hbox hb; have BK158 := aM (hbox); have GW158 := aM ((by rw [hg]; exact (bwZ (by apply_rules (transparency := .reducible) [HB.1, bwA, bwN, bwD, bwS, GE157.1])) : w.heap.size ≤ gb158)); have GE158 := aM ((by rw [hg]; exact (bwZ (by apply_rules (transparency := .reducible) [HB.1, bwA, bwN, bwD, bwS, GE157.1])) : w.heap.size ≤ gb158)); replace HB := aM (bwP (by apply_rules (transparency := .reducible) [HB.1, bwA, bwN, bwD, bwS, GE157.1]) hb); have NB157_158 := aM ((by rw [hg]; exact Nat.ne_of_lt (bkL (g := gb157) (o := .cells #[.int .i64 a0_0, .int .i32 a0_1, .bool true, .bool a0_3, .bool a0_4, .string a0_5] 25 (0, 0)) (by apply_rules (transparency := .reducible) [BK157.1, bkN, bkD, bkA])) : gb157 ≠ gb158)); have NB158_157 := aM ((by rw [hg]; exact Nat.ne_of_gt (bkL (g := gb157) (o := .cells #[.int .i64 a0_0, .int .i32 a0_1, .bool true, .bool a0_3, .bool a0_4, .string a0_5] 25 (0, 0)) (by apply_rules (transparency := .reducible) [BK157.1, bkN, bkD, bkA])) : gb158 ≠ gb157)); replace BK157 := aM (bkB (g := gb157) (o := .cells #[.int .i64 a0_0, .int .i32 a0_1, .bool true, .bool a0_3, .bool a0_4, .string a0_5] 25 (0, 0)) (by apply_rules (transparency := .reducible) [BK157.1, bkN, bkD, bkA]) hb); clear hb hbox hg) | ((with_reducible refine gate_dst (N := 3) rfl ?_); refine box_event ?hg (N := 3) ?hd (cs := #[.int .i64 0, .int .i64 0, .string (⟨#[]⟩ : ByteArray), .int .u8 0]) (t := 36) ?hr ?_; (case hd => rfl); (case hg => rfl); (case hr => first | (go_simp; done) | (go_simp; rfl)); intro gb159 hg w57 hbox hb; have BK159 := aM (hbox); have GW159 := aM ((by rw [hg]; exact (bwZ (by apply_rules (transparency := .reducible) [HB.1, bwA, bwN, bwD, bwS, GE157.1, GE158.1])) : w.heap.size ≤ gb159)); have GE159 := aM ((by rw [hg]; exact (bwZ (by apply_rules (transparency := .reducible) [HB.1, bwA, bwN, bwD, bwS, GE157.1, GE158.1])) : w.heap.size ≤ gb159)); replace HB := aM (bwP (by apply_rules (transparency := .reducible) [HB.1, bwA, bwN, bwD, bwS, GE157.1, GE158.1]) hb); have NB157_159 := aM ((by rw [hg]; exact Nat.ne_of_lt (bkL (g := gb157) (o := .cells #[.int .i64 a0_0, .int .i32 a0_1, .bool true, .bool a0_3, .bool a0_4, .string a0_5] 25 (0, 0)) (by apply_rules (transparency := .reducible) [BK157.1, bkN, bkD, bkA])) : gb157 ≠ gb159)); have NB159_157 := aM ((by rw [hg]; exact Nat.ne_of_gt (bkL (g := gb157) (o := .cells #[.int .i64 a0_0, .int .i32 a0_1, .bool true, .bool a0_3, .bool a0_4, .string a0_5] 25 (0, 0)) (by apply_rules (transparency := .reducible) [BK157.1, bkN, bkD, bkA])) : gb159 ≠ gb157)); replace BK157 := aM (bkB (g := gb157) (o := .cells #[.int .i64 a0_0, .int .i32 a0_1, .bool true, .bool a0_3, .bool a0_4, .string a0_5] 25 (0, 0)) (by apply_rules (transparency := .reducible) [BK157.1, bkN, bkD, bkA]) hb); have NB158_159 := aM ((by rw [hg]; exact Nat.ne_of_lt (bkL (g := gb158) (o := .cells #[.int .i64 0, .int .i64 0, .string (⟨#[]⟩ : ByteArray), .int .u8 0] 36 (0, 0)) (by apply_rules (transparency := .reducible) [BK158.1, bkN, bkD, bkA])) : gb158 ≠ gb159)); have NB159_158 := aM ((by rw [hg]; exact Nat.ne_of_gt (bkL (g := gb158) (o := .cells #[.int .i64 0, .int .i64 0, .string (⟨#[]⟩ : ByteArray), .int .u8 0] 36 (0, 0)) (by apply_rules (transparency := .reducible) [BK158.1, bkN, bkD, bkA])) : gb159 ≠ gb158)); replace BK158 := aM (bkB (g := gb158) (o := .cells #[.int .i64 0, .int .i64 0, .string (⟨#[]⟩ : ByteArray), .int .u8 0] 36 (0, 0)) (by apply_rules (transparency := .reducible) [BK158.1, bkN, bkD, bkA]) hb); clear hb hbox hg; have hnb58 := NB159_157.1; have hnc58 := NB157_159.1; have hnb59 := NB159_158.1; have hnc59 := NB158_159.1; obtain ⟨z60_0, z60_1, z60_2, z60_3, z60_4, z60_5, z60_6, z60_7⟩ := bx4 BK159.1; have hnb61 := NB157_158.1; have hnc61 := NB158_157.1; obtain ⟨z62_0, z62_1, z62_2, z62_3, z62_4, z62_5, z62_6, z62_7, z62_8, z62_9, z62_10, z62_11⟩ := bx6 BK157.1; obtain ⟨z63_0, z63_1, z63_2, z63_3, z63_4, z63_5, z63_6, z63_7⟩ := bx4 BK158.1))
   refine bodyPost_ret (results_cell_row rfl _ _ gb158 36 #[.int .i64 40, .int .i64 1, .string (⟨#[]⟩ : ByteArray), .int .u8 0] (0, 0) _ rfl (by (with_reducible repeat first | apply bkN | apply bkD | apply bkA); refine put4 (cs := #[.int .i64 0, .int .i64 0, .string (⟨#[]⟩ : ByteArray), .int .u8 0]) ?_ rfl; (with_reducible repeat first | apply bkN | apply bkD | apply bkA); refine bkR ?_ NB158_159.1 _; (with_reducible repeat first | apply bkN | apply bkD | apply bkA); refine bkR ?_ NB158_159.1 _; (with_reducible repeat first | apply bkN | apply bkD | apply bkA); refine bkR ?_ NB158_159.1 _; (with_reducible repeat first | apply bkN | apply bkD | apply bkA); refine bkR ?_ NB158_159.1 _; (with_reducible repeat first | apply bkN | apply bkD | apply bkA); exact BK158.1) Try.underlying36 rfl (by kernel_rfl)) rfl ?_
   exact ⟨rfl, by apply_rules (transparency := .reducible) [HB.1, bwA, bwN, bwD, bwS, GE157.1, GE158.1, GE159.1]⟩
  replace c54 := Bool.eq_false_iff.mpr c54
  subst c54
  replace H : (if a0_3 = true then (some (40, 1, (⟨#[]⟩ : ByteArray), 0)) else ((bind_inserts.f a0_5).bind fun bt172 => (some (bt172.1, bt172.2.1, bt172.2.2.1, bt172.2.2.2)))) = some (r1, r2, r3, r4) := by rw [if_neg (show ¬ (false = true) by decide)] at H; exact H
  by_cases c64 : a0_3 = true
  ·subst c64
   replace H : (some (40, 1, (⟨#[]⟩ : ByteArray), 0)) = some (r1, r2, r3, r4) := by rw [if_pos rfl] at H; exact H
   simp only [Option.some.injEq, Prod.mk.injEq] at H
   obtain ⟨rfl, rfl, rfl, rfl⟩ := H
   go_enter Try.func33, Try.ntmps33
   go_wp2_with (first | ((with_reducible refine gate_dst (N := 1) rfl ?_); refine box_event ?hg (N := 1) ?hd (cs := #[.int .i64 a0_0, .int .i32 a0_1, .bool false, .bool true, .bool a0_4, .string a0_5]) (t := 25) ?hr ?_; (case hd => rfl); (case hg => rfl); (case hr => first | (go_simp; done) | (go_simp; rfl)); intro gb157 hg w65 hbox hb; have BK157 := aM (hbox); have GW157 := aM ((by rw [hg]; exact (bwZ (by apply_rules (transparency := .reducible) [HB.1, bwA, bwN, bwD])) : w.heap.size ≤ gb157)); have GE157 := aM ((by rw [hg]; exact (bwZ (by apply_rules (transparency := .reducible) [HB.1, bwA, bwN, bwD])) : w.heap.size ≤ gb157)); replace HB := aM (bwP (by apply_rules (transparency := .reducible) [HB.1, bwA, bwN, bwD]) hb); clear hb hbox hg) | ((with_reducible refine gate_dst (N := 2) rfl ?_); refine box_event ?hg (N := 2) ?hd (cs := #[.int .i64 0, .int .i64 0, .string (⟨#[]⟩ : ByteArray), .int .u8 0]) (t := 36) ?hr ?_; (case hd => rfl); (case hg => rfl); (case hr => first | (go_simp; done) | (go_simp; rfl)); intro gb158 hg w66 hbox hb; have BK158 := aM (hbox); have GW158 := aM ((by rw [hg]; exact (bwZ (by apply_rules (transparency := .reducible) [HB.1, bwA, bwN, bwD, bwS, GE157.1])) : w.heap.size ≤ gb158)); have GE158 := aM ((by rw [hg]; exact (bwZ (by apply_rules (transparency := .reducible) [HB.1, bwA, bwN, bwD, bwS, GE157.1])) : w.heap.size ≤ gb158)); replace HB := aM (bwP (by apply_rules (transparency := .reducible) [HB.1, bwA, bwN, bwD, bwS, GE157.1]) hb); have NB157_158 := aM ((by rw [hg]; exact Nat.ne_of_lt (bkL (g := gb157) (o := .cells #[.int .i64 a0_0, .int .i32 a0_1, .bool false, .bool true, .bool a0_4, .string a0_5] 25 (0, 0)) (by apply_rules (transparency := .reducible) [BK157.1, bkN, bkD, bkA])) : gb157 ≠ gb158)); have NB158_157 := aM ((by rw [hg]; exact Nat.ne_of_gt (bkL (g := gb157) (o := .cells #[.int .i64 a0_0, .int .i32 a0_1, .bool false, .bool true, .bool a0_4, .string a0_5] 25 (0, 0)) (by apply_rules (transparency := .reducible) [BK157.1, bkN, bkD, bkA])) : gb158 ≠ gb157)); replace BK157 := aM (bkB (g := gb157) (o := .cells #[.int .i64 a0_0, .int .i32 a0_1, .bool false, .bool true, .bool a0_4, .string a0_5] 25 (0, 0)) (by apply_rules (transparency := .reducible) [BK157.1, bkN, bkD, bkA]) hb); clear hb hbox hg) | ((with_reducible refine gate_dst (N := 3) rfl ?_); refine box_event ?hg (N := 3) ?hd (cs := #[.int .i64 0, .int .i64 0, .string (⟨#[]⟩ : ByteArray), .int .u8 0]) (t := 36) ?hr ?_; (case hd => rfl); (case hg => rfl); (case hr => first | (go_simp; done) | (go_simp; rfl)); intro gb159 hg w67 hbox hb; have BK159 := aM (hbox); have GW159 := aM ((by rw [hg]; exact (bwZ (by apply_rules (transparency := .reducible) [HB.1, bwA, bwN, bwD, bwS, GE157.1, GE158.1])) : w.heap.size ≤ gb159)); have GE159 := aM ((by rw [hg]; exact (bwZ (by apply_rules (transparency := .reducible) [HB.1, bwA, bwN, bwD, bwS, GE157.1, GE158.1])) : w.heap.size ≤ gb159)); replace HB := aM (bwP (by apply_rules (transparency := .reducible) [HB.1, bwA, bwN, bwD, bwS, GE157.1, GE158.1]) hb); have NB157_159 := aM ((by rw [hg]; exact Nat.ne_of_lt (bkL (g := gb157) (o := .cells #[.int .i64 a0_0, .int .i32 a0_1, .bool false, .bool true, .bool a0_4, .string a0_5] 25 (0, 0)) (by apply_rules (transparency := .reducible) [BK157.1, bkN, bkD, bkA])) : gb157 ≠ gb159)); have NB159_157 := aM ((by rw [hg]; exact Nat.ne_of_gt (bkL (g := gb157) (o := .cells #[.int .i64 a0_0, .int .i32 a0_1, .bool false, .bool true, .bool a0_4, .string a0_5] 25 (0, 0)) (by apply_rules (transparency := .reducible) [BK157.1, bkN, bkD, bkA])) : gb159 ≠ gb157)); replace BK157 := aM (bkB (g := gb157) (o := .cells #[.int .i64 a0_0, .int .i32 a0_1, .bool false, .bool true, .bool a0_4, .string a0_5] 25 (0, 0)) (by apply_rules (transparency := .reducible) [BK157.1, bkN, bkD, bkA]) hb); have NB158_159 := aM ((by rw [hg]; exact Nat.ne_of_lt (bkL (g := gb158) (o := .cells #[.int .i64 0, .int .i64 0, .string (⟨#[]⟩ : ByteArray), .int .u8 0] 36 (0, 0)) (by apply_rules (transparency := .reducible) [BK158.1, bkN, bkD, bkA])) : gb158 ≠ gb159)); have NB159_158 := aM ((by rw [hg]; exact Nat.ne_of_gt (bkL (g := gb158) (o := .cells #[.int .i64 0, .int .i64 0, .string (⟨#[]⟩ : ByteArray), .int .u8 0] 36 (0, 0)) (by apply_rules (transparency := .reducible) [BK158.1, bkN, bkD, bkA])) : gb159 ≠ gb158)); replace BK158 := aM (bkB (g := gb158) (o := .cells #[.int .i64 0, .int .i64 0, .string (⟨#[]⟩ : ByteArray), .int .u8 0] 36 (0, 0)) (by apply_rules (transparency := .reducible) [BK158.1, bkN, bkD, bkA]) hb); clear hb hbox hg; have hnb68 := NB159_157.1; have hnc68 := NB157_159.1; have hnb69 := NB159_158.1; have hnc69 := NB158_159.1; obtain ⟨z70_0, z70_1, z70_2, z70_3, z70_4, z70_5, z70_6, z70_7⟩ := bx4 BK159.1; have hnb71 := NB157_158.1; have hnc71 := NB158_157.1; obtain ⟨z72_0, z72_1, z72_2, z72_3, z72_4, z72_5, z72_6, z72_7, z72_8, z72_9, z72_10, z72_11⟩ := bx6 BK157.1; obtain ⟨z73_0, z73_1, z73_2, z73_3, z73_4, z73_5, z73_6, z73_7⟩ := bx4 BK158.1))
   refine bodyPost_ret (results_cell_row rfl _ _ gb158 36 #[.int .i64 40, .int .i64 1, .string (⟨#[]⟩ : ByteArray), .int .u8 0] (0, 0) _ rfl (by (with_reducible repeat first | apply bkN | apply bkD | apply bkA); refine put4 (cs := #[.int .i64 0, .int .i64 0, .string (⟨#[]⟩ : ByteArray), .int .u8 0]) ?_ rfl; (with_reducible repeat first | apply bkN | apply bkD | apply bkA); refine bkR ?_ NB158_159.1 _; (with_reducible repeat first | apply bkN | apply bkD | apply bkA); refine bkR ?_ NB158_159.1 _; (with_reducible repeat first | apply bkN | apply bkD | apply bkA); refine bkR ?_ NB158_159.1 _; (with_reducible repeat first | apply bkN | apply bkD | apply bkA); refine bkR ?_ NB158_159.1 _; (with_reducible repeat first | apply bkN | apply bkD | apply bkA); exact BK158.1) Try.underlying36 rfl (by kernel_rfl)) rfl ?_
   exact ⟨rfl, by apply_rules (transparency := .reducible) [HB.1, bwA, bwN, bwD, bwS, GE157.1, GE158.1, GE159.1]⟩
  replace c64 := Bool.eq_false_iff.mpr c64
  subst c64
  replace H : ((bind_inserts.f a0_5).bind fun bt172 => (some (bt172.1, bt172.2.1, bt172.2.2.1, bt172.2.2.2))) = some (r1, r2, r3, r4) := by rw [if_neg (show ¬ (false = true) by decide)] at H; exact H
  replace H := Option.bind_eq_some_iff.mp H
  obtain ⟨⟨t172, t173, t174, t175⟩, A740, H⟩ := H
  replace H : (some (t172, t173, t174, t175)) = some (r1, r2, r3, r4) := H
  have A74 := aM A740
  clear A740
  simp only [Option.some.injEq, Prod.mk.injEq] at H
  obtain ⟨rfl, rfl, rfl, rfl⟩ := H
  go_enter Try.func33, Try.ntmps33
  go_wp2_with (first | ((with_reducible refine gate_dst (N := 1) rfl ?_); refine box_event ?hg (N := 1) ?hd (cs := #[.int .i64 a0_0, .int .i32 a0_1, .bool false, .bool false, .bool a0_4, .string a0_5]) (t := 25) ?hr ?_; (case hd => rfl); (case hg => rfl); (case hr => first | (go_simp; done) | (go_simp; rfl)); intro gb157 hg w75 hbox hb; have BK157 := aM (hbox); have GW157 := aM ((by rw [hg]; exact (bwZ (by apply_rules (transparency := .reducible) [HB.1, bwA, bwN, bwD])) : w.heap.size ≤ gb157)); have GE157 := aM ((by rw [hg]; exact (bwZ (by apply_rules (transparency := .reducible) [HB.1, bwA, bwN, bwD])) : w.heap.size ≤ gb157)); replace HB := aM (bwP (by apply_rules (transparency := .reducible) [HB.1, bwA, bwN, bwD]) hb); clear hb hbox hg) | ((with_reducible refine gate_dst (N := 2) rfl ?_); refine box_event ?hg (N := 2) ?hd (cs := #[.int .i64 0, .int .i64 0, .string (⟨#[]⟩ : ByteArray), .int .u8 0]) (t := 36) ?hr ?_; (case hd => rfl); (case hg => rfl); (case hr => first | (go_simp; done) | (go_simp; rfl)); intro gb158 hg w76 hbox hb; have BK158 := aM (hbox); have GW158 := aM ((by rw [hg]; exact (bwZ (by apply_rules (transparency := .reducible) [HB.1, bwA, bwN, bwD, bwS, GE157.1])) : w.heap.size ≤ gb158)); have GE158 := aM ((by rw [hg]; exact (bwZ (by apply_rules (transparency := .reducible) [HB.1, bwA, bwN, bwD, bwS, GE157.1])) : w.heap.size ≤ gb158)); replace HB := aM (bwP (by apply_rules (transparency := .reducible) [HB.1, bwA, bwN, bwD, bwS, GE157.1]) hb); have NB157_158 := aM ((by rw [hg]; exact Nat.ne_of_lt (bkL (g := gb157) (o := .cells #[.int .i64 a0_0, .int .i32 a0_1, .bool false, .bool false, .bool a0_4, .string a0_5] 25 (0, 0)) (by apply_rules (transparency := .reducible) [BK157.1, bkN, bkD, bkA])) : gb157 ≠ gb158)); have NB158_157 := aM ((by rw [hg]; exact Nat.ne_of_gt (bkL (g := gb157) (o := .cells #[.int .i64 a0_0, .int .i32 a0_1, .bool false, .bool false, .bool a0_4, .string a0_5] 25 (0, 0)) (by apply_rules (transparency := .reducible) [BK157.1, bkN, bkD, bkA])) : gb158 ≠ gb157)); replace BK157 := aM (bkB (g := gb157) (o := .cells #[.int .i64 a0_0, .int .i32 a0_1, .bool false, .bool false, .bool a0_4, .string a0_5] 25 (0, 0)) (by apply_rules (transparency := .reducible) [BK157.1, bkN, bkD, bkA]) hb); clear hb hbox hg) | ((with_reducible refine gate_dst (N := 3) rfl ?_); refine box_event ?hg (N := 3) ?hd (cs := #[.int .i64 0, .int .i64 0, .string (⟨#[]⟩ : ByteArray), .int .u8 0]) (t := 36) ?hr ?_; (case hd => rfl); (case hg => rfl); (case hr => first | (go_simp; done) | (go_simp; rfl)); intro gb159 hg w77 hbox hb; have BK159 := aM (hbox); have GW159 := aM ((by rw [hg]; exact (bwZ (by apply_rules (transparency := .reducible) [HB.1, bwA, bwN, bwD, bwS, GE157.1, GE158.1])) : w.heap.size ≤ gb159)); have GE159 := aM ((by rw [hg]; exact (bwZ (by apply_rules (transparency := .reducible) [HB.1, bwA, bwN, bwD, bwS, GE157.1, GE158.1])) : w.heap.size ≤ gb159)); replace HB := aM (bwP (by apply_rules (transparency := .reducible) [HB.1, bwA, bwN, bwD, bwS, GE157.1, GE158.1]) hb); have NB157_159 := aM ((by rw [hg]; exact Nat.ne_of_lt (bkL (g := gb157) (o := .cells #[.int .i64 a0_0, .int .i32 a0_1, .bool false, .bool false, .bool a0_4, .string a0_5] 25 (0, 0)) (by apply_rules (transparency := .reducible) [BK157.1, bkN, bkD, bkA])) : gb157 ≠ gb159)); have NB159_157 := aM ((by rw [hg]; exact Nat.ne_of_gt (bkL (g := gb157) (o := .cells #[.int .i64 a0_0, .int .i32 a0_1, .bool false, .bool false, .bool a0_4, .string a0_5] 25 (0, 0)) (by apply_rules (transparency := .reducible) [BK157.1, bkN, bkD, bkA])) : gb159 ≠ gb157)); replace BK157 := aM (bkB (g := gb157) (o := .cells #[.int .i64 a0_0, .int .i32 a0_1, .bool false, .bool false, .bool a0_4, .string a0_5] 25 (0, 0)) (by apply_rules (transparency := .reducible) [BK157.1, bkN, bkD, bkA]) hb); have NB158_159 := aM ((by rw [hg]; exact Nat.ne_of_lt (bkL (g := gb158) (o := .cells #[.int .i64 0, .int .i64 0, .string (⟨#[]⟩ : ByteArray), .int .u8 0] 36 (0, 0)) (by apply_rules (transparency := .reducible) [BK158.1, bkN, bkD, bkA])) : gb158 ≠ gb159)); have NB159_158 := aM ((by rw [hg]; exact Nat.ne_of_gt (bkL (g := gb158) (o := .cells #[.int .i64 0, .int .i64 0, .string (⟨#[]⟩ : ByteArray), .int .u8 0] 36 (0, 0)) (by apply_rules (transparency := .reducible) [BK158.1, bkN, bkD, bkA])) : gb159 ≠ gb158)); replace BK158 := aM (bkB (g := gb158) (o := .cells #[.int .i64 0, .int .i64 0, .string (⟨#[]⟩ : ByteArray), .int .u8 0] 36 (0, 0)) (by apply_rules (transparency := .reducible) [BK158.1, bkN, bkD, bkA]) hb); clear hb hbox hg; have hnb78 := NB159_157.1; have hnc78 := NB157_159.1; have hnb79 := NB159_158.1; have hnc79 := NB158_159.1; obtain ⟨z80_0, z80_1, z80_2, z80_3, z80_4, z80_5, z80_6, z80_7⟩ := bx4 BK159.1; have hnb81 := NB157_158.1; have hnc81 := NB158_157.1; obtain ⟨z82_0, z82_1, z82_2, z82_3, z82_4, z82_5, z82_6, z82_7, z82_8, z82_9, z82_10, z82_11⟩ := bx6 BK157.1) | ((with_reducible refine gate_callee (f := 43) rfl ?_); refine goesL_ (some 45) rfl rfl Try.func43 (by kernel_rfl) rfl #[.string a0_5] rfl (by (try simp only [List.map_toArray, List.map_cons, List.map_nil]); first | done | rfl) ?_; (with_reducible refine (bind_inserts.calls a0_5 t172 t173 t174 t175 _ A74.1).mono ?_); rintro e w83 ⟨rfl, hb⟩; refine ⟨_, rfl, ?_⟩; replace BK157 := aM (bkB (g := gb157) (o := .cells #[.int .i64 a0_0, .int .i32 a0_1, .bool false, .bool false, .bool a0_4, .string a0_5] 25 (0, 0)) (by apply_rules (transparency := .reducible) [BK157.1, bkN, bkD, bkA, bkR, NB157_159.1]) hb); replace BK158 := aM (bkB (g := gb158) (o := .cells #[.int .i64 0, .int .i64 0, .string (⟨#[]⟩ : ByteArray), .int .u8 0] 36 (0, 0)) (by apply_rules (transparency := .reducible) [BK158.1, bkN, bkD, bkA, bkR, NB158_159.1]) hb); replace BK159 := aM (bkB (g := gb159) (o := .cells #[.int .i64 40, .int .i64 1, .string (⟨#[]⟩ : ByteArray), .int .u8 0] 36 (0, 0)) (by (with_reducible repeat first | apply bkN | apply bkD | apply bkA); refine put4 (cs := #[.int .i64 0, .int .i64 0, .string (⟨#[]⟩ : ByteArray), .int .u8 0]) ?_ rfl; (with_reducible repeat first | apply bkN | apply bkD | apply bkA); exact BK159.1) hb); replace HB := aM (bwP (by apply_rules (transparency := .reducible) [HB.1, bwA, bwN, bwD, bwS, GE157.1, GE158.1, GE159.1]) hb); (try clear hb); (try clear hb2); (try clear hk); (try clear hi); obtain ⟨z84_0, z84_1, z84_2, z84_3, z84_4, z84_5, z84_6, z84_7⟩ := bx4 BK159.1; obtain ⟨z85_0, z85_1, z85_2, z85_3, z85_4, z85_5, z85_6, z85_7⟩ := bx4 BK158.1))
  refine bodyPost_ret (results_cell_row rfl _ _ gb158 36 #[.int .i64 t172, .int .i64 t173, .string t174, .int .u8 t175] (0, 0) _ rfl (by (with_reducible repeat first | apply bkN | apply bkD | apply bkA); refine put4 (cs := #[.int .i64 0, .int .i64 0, .string (⟨#[]⟩ : ByteArray), .int .u8 0]) ?_ rfl; (with_reducible repeat first | apply bkN | apply bkD | apply bkA); refine bkR ?_ NB158_159.1 _; (with_reducible repeat first | apply bkN | apply bkD | apply bkA); refine bkR ?_ NB158_159.1 _; (with_reducible repeat first | apply bkN | apply bkD | apply bkA); refine bkR ?_ NB158_159.1 _; (with_reducible repeat first | apply bkN | apply bkD | apply bkA); refine bkR ?_ NB158_159.1 _; (with_reducible repeat first | apply bkN | apply bkD | apply bkA); exact BK158.1) Try.underlying36 rfl (by kernel_rfl)) rfl ?_
  exact ⟨rfl, by apply_rules (transparency := .reducible) [HB.1, bwA, bwN, bwD, bwS, GE157.1, GE158.1, GE159.1]⟩
 rw [if_neg c53] at H
 have c53b0 : (a0_0 == 4) = false := beq_eq_false_iff_ne.mpr c53
 have c53b1 : (a0_0 != 4) = true := bne_iff_ne.mpr c53
 by_cases c86 : a0_0 = 2
 ·rw [if_pos c86] at H
  have c86b0 : (a0_0 == 2) = true := beq_iff_eq.mpr c86
  have c86b1 : (a0_0 != 2) = false := bne_eq_false_iff_eq.mpr c86
  clear c86
  by_cases c87 : a0_3 = true
  ·subst c87
   replace H : (if a0_1 = 72 then (some (17, 1, (⟨#[]⟩ : ByteArray), 0)) else (if a0_1 = 63 then (some (17, 1, (⟨#[]⟩ : ByteArray), 0)) else (some (40, 1, (⟨#[]⟩ : ByteArray), 0)))) = some (r1, r2, r3, r4) := by rw [if_pos rfl] at H; exact H
   by_cases c88 : a0_1 = 72
   ·rw [if_pos c88] at H
    have c88b0 : (a0_1 == 72) = true := beq_iff_eq.mpr c88
    have c88b1 : (a0_1 != 72) = false := bne_eq_false_iff_eq.mpr c88
    clear c88
    simp only [Option.some.injEq, Prod.mk.injEq] at H
    obtain ⟨rfl, rfl, rfl, rfl⟩ := H
    go_enter Try.func33, Try.ntmps33
    go_wp2_with (first | ((with_reducible refine gate_dst (N := 1) rfl ?_); refine box_event ?hg (N := 1) ?hd (cs := #[.int .i64 a0_0, .int .i32 a0_1, .bool a0_2, .bool true, .bool a0_4, .string a0_5]) (t := 25) ?hr ?_; (case hd => rfl); (case hg => rfl); (case hr => first | (go_simp; done) | (go_simp; rfl)); intro gb157 hg w89 hbox hb; have BK157 := aM (hbox); have GW157 := aM ((by rw [hg]; exact (bwZ (by apply_rules (transparency := .reducible) [HB.1, bwA, bwN, bwD])) : w.heap.size ≤ gb157)); have GE157 := aM ((by rw [hg]; exact (bwZ (by apply_rules (transparency := .reducible) [HB.1, bwA, bwN, bwD])) : w.heap.size ≤ gb157)); replace HB := aM (bwP (by apply_rules (transparency := .reducible) [HB.1, bwA, bwN, bwD]) hb); clear hb hbox hg) | ((with_reducible refine gate_dst (N := 2) rfl ?_); refine box_event ?hg (N := 2) ?hd (cs := #[.int .i64 0, .int .i64 0, .string (⟨#[]⟩ : ByteArray), .int .u8 0]) (t := 36) ?hr ?_; (case hd => rfl); (case hg => rfl); (case hr => first | (go_simp; done) | (go_simp; rfl)); intro gb158 hg w90 hbox hb; have BK158 := aM (hbox); have GW158 := aM ((by rw [hg]; exact (bwZ (by apply_rules (transparency := .reducible) [HB.1, bwA, bwN, bwD, bwS, GE157.1])) : w.heap.size ≤ gb158)); have GE158 := aM ((by rw [hg]; exact (bwZ (by apply_rules (transparency := .reducible) [HB.1, bwA, bwN, bwD, bwS, GE157.1])) : w.heap.size ≤ gb158)); replace HB := aM (bwP (by apply_rules (transparency := .reducible) [HB.1, bwA, bwN, bwD, bwS, GE157.1]) hb); have NB157_158 := aM ((by rw [hg]; exact Nat.ne_of_lt (bkL (g := gb157) (o := .cells #[.int .i64 a0_0, .int .i32 a0_1, .bool a0_2, .bool true, .bool a0_4, .string a0_5] 25 (0, 0)) (by apply_rules (transparency := .reducible) [BK157.1, bkN, bkD, bkA])) : gb157 ≠ gb158)); have NB158_157 := aM ((by rw [hg]; exact Nat.ne_of_gt (bkL (g := gb157) (o := .cells #[.int .i64 a0_0, .int .i32 a0_1, .bool a0_2, .bool true, .bool a0_4, .string a0_5] 25 (0, 0)) (by apply_rules (transparency := .reducible) [BK157.1, bkN, bkD, bkA])) : gb158 ≠ gb157)); replace BK157 := aM (bkB (g := gb157) (o := .cells #[.int .i64 a0_0, .int .i32 a0_1, .bool a0_2, .bool true, .bool a0_4, .string a0_5] 25 (0, 0)) (by apply_rules (transparency := .reducible) [BK157.1, bkN, bkD, bkA]) hb); clear hb hbox hg) | ((with_reducible refine gate_dst (N := 3) rfl ?_); refine box_event ?hg (N := 3) ?hd (cs := #[.int .i64 0, .int .i64 0, .string (⟨#[]⟩ : ByteArray), .int .u8 0]) (t := 36) ?hr ?_; (case hd => rfl); (case hg => rfl); (case hr => first | (go_simp; done) | (go_simp; rfl)); intro gb159 hg w91 hbox hb; have BK159 := aM (hbox); have GW159 := aM ((by rw [hg]; exact (bwZ (by apply_rules (transparency := .reducible) [HB.1, bwA, bwN, bwD, bwS, GE157.1, GE158.1])) : w.heap.size ≤ gb159)); have GE159 := aM ((by rw [hg]; exact (bwZ (by apply_rules (transparency := .reducible) [HB.1, bwA, bwN, bwD, bwS, GE157.1, GE158.1])) : w.heap.size ≤ gb159)); replace HB := aM (bwP (by apply_rules (transparency := .reducible) [HB.1, bwA, bwN, bwD, bwS, GE157.1, GE158.1]) hb); have NB157_159 := aM ((by rw [hg]; exact Nat.ne_of_lt (bkL (g := gb157) (o := .cells #[.int .i64 a0_0, .int .i32 a0_1, .bool a0_2, .bool true, .bool a0_4, .string a0_5] 25 (0, 0)) (by apply_rules (transparency := .reducible) [BK157.1, bkN, bkD, bkA])) : gb157 ≠ gb159)); have NB159_157 := aM ((by rw [hg]; exact Nat.ne_of_gt (bkL (g := gb157) (o := .cells #[.int .i64 a0_0, .int .i32 a0_1, .bool a0_2, .bool true, .bool a0_4, .string a0_5] 25 (0, 0)) (by apply_rules (transparency := .reducible) [BK157.1, bkN, bkD, bkA])) : gb159 ≠ gb157)); replace BK157 := aM (bkB (g := gb157) (o := .cells #[.int .i64 a0_0, .int .i32 a0_1, .bool a0_2, .bool true, .bool a0_4, .string a0_5] 25 (0, 0)) (by apply_rules (transparency := .reducible) [BK157.1, bkN, bkD, bkA]) hb); have NB158_159 := aM ((by rw [hg]; exact Nat.ne_of_lt (bkL (g := gb158) (o := .cells #[.int .i64 0, .int .i64 0, .string (⟨#[]⟩ : ByteArray), .int .u8 0] 36 (0, 0)) (by apply_rules (transparency := .reducible) [BK158.1, bkN, bkD, bkA])) : gb158 ≠ gb159)); have NB159_158 := aM ((by rw [hg]; exact Nat.ne_of_gt (bkL (g := gb158) (o := .cells #[.int .i64 0, .int .i64 0, .string (⟨#[]⟩ : ByteArray), .int .u8 0] 36 (0, 0)) (by apply_rules (transparency := .reducible) [BK158.1, bkN, bkD, bkA])) : gb159 ≠ gb158)); replace BK158 := aM (bkB (g := gb158) (o := .cells #[.int .i64 0, .int .i64 0, .string (⟨#[]⟩ : ByteArray), .int .u8 0] 36 (0, 0)) (by apply_rules (transparency := .reducible) [BK158.1, bkN, bkD, bkA]) hb); clear hb hbox hg; have hnb92 := NB159_157.1; have hnc92 := NB157_159.1; have hnb93 := NB159_158.1; have hnc93 := NB158_159.1; obtain ⟨z94_0, z94_1, z94_2, z94_3, z94_4, z94_5, z94_6, z94_7⟩ := bx4 BK159.1; have hnb95 := NB157_158.1; have hnc95 := NB158_157.1; obtain ⟨z96_0, z96_1, z96_2, z96_3, z96_4, z96_5, z96_6, z96_7, z96_8, z96_9, z96_10, z96_11⟩ := bx6 BK157.1; obtain ⟨z97_0, z97_1, z97_2, z97_3, z97_4, z97_5, z97_6, z97_7⟩ := bx4 BK158.1))
    refine bodyPost_ret (results_cell_row rfl _ _ gb158 36 #[.int .i64 17, .int .i64 1, .string (⟨#[]⟩ : ByteArray), .int .u8 0] (0, 0) _ rfl (by (with_reducible repeat first | apply bkN | apply bkD | apply bkA); refine put4 (cs := #[.int .i64 0, .int .i64 0, .string (⟨#[]⟩ : ByteArray), .int .u8 0]) ?_ rfl; (with_reducible repeat first | apply bkN | apply bkD | apply bkA); refine bkR ?_ NB158_159.1 _; (with_reducible repeat first | apply bkN | apply bkD | apply bkA); refine bkR ?_ NB158_159.1 _; (with_reducible repeat first | apply bkN | apply bkD | apply bkA); refine bkR ?_ NB158_159.1 _; (with_reducible repeat first | apply bkN | apply bkD | apply bkA); refine bkR ?_ NB158_159.1 _; (with_reducible repeat first | apply bkN | apply bkD | apply bkA); refine bkR ?_ NB158_159.1 _; (with_reducible repeat first | apply bkN | apply bkD | apply bkA); exact BK158.1) Try.underlying36 rfl (by kernel_rfl)) rfl ?_
    exact ⟨rfl, by apply_rules (transparency := .reducible) [HB.1, bwA, bwN, bwD, bwS, GE157.1, GE158.1, GE159.1]⟩
   rw [if_neg c88] at H
   have c88b0 : (a0_1 == 72) = false := beq_eq_false_iff_ne.mpr c88
   have c88b1 : (a0_1 != 72) = true := bne_iff_ne.mpr c88
   by_cases c98 : a0_1 = 63
   ·rw [if_pos c98] at H
    have c98b0 : (a0_1 == 63) = true := beq_iff_eq.mpr c98
    have c98b1 : (a0_1 != 63) = false := bne_eq_false_iff_eq.mpr c98
    clear c98
    simp only [Option.some.injEq, Prod.mk.injEq] at H
    obtain ⟨rfl, rfl, rfl, rfl⟩ := H
    go_enter Try.func33, Try.ntmps33
    go_wp2_with (first | ((with_reducible refine gate_dst (N := 1) rfl ?_); refine box_event ?hg (N := 1) ?hd (cs := #[.int .i64 a0_0, .int .i32 a0_1, .bool a0_2, .bool true, .bool a0_4, .string a0_5]) (t := 25) ?hr ?_; (case hd => rfl); (case hg => rfl); (case hr => first | (go_simp; done) | (go_simp; rfl)); intro gb157 hg w99 hbox hb; have BK157 := aM (hbox); have GW157 := aM ((by rw [hg]; exact (bwZ (by apply_rules (transparency := .reducible) [HB.1, bwA, bwN, bwD])) : w.heap.size ≤ gb157)); have GE157 := aM ((by rw [hg]; exact (bwZ (by apply_rules (transparency := .reducible) [HB.1, bwA, bwN, bwD])) : w.heap.size ≤ gb157)); replace HB := aM (bwP (by apply_rules (transparency := .reducible) [HB.1, bwA, bwN, bwD]) hb); clear hb hbox hg) | ((with_reducible refine gate_dst (N := 2) rfl ?_); refine box_event ?hg (N := 2) ?hd (cs := #[.int .i64 0, .int .i64 0, .string (⟨#[]⟩ : ByteArray), .int .u8 0]) (t := 36) ?hr ?_; (case hd => rfl); (case hg => rfl); (case hr => first | (go_simp; done) | (go_simp; rfl)); intro gb158 hg w100 hbox hb; have BK158 := aM (hbox); have GW158 := aM ((by rw [hg]; exact (bwZ (by apply_rules (transparency := .reducible) [HB.1, bwA, bwN, bwD, bwS, GE157.1])) : w.heap.size ≤ gb158)); have GE158 := aM ((by rw [hg]; exact (bwZ (by apply_rules (transparency := .reducible) [HB.1, bwA, bwN, bwD, bwS, GE157.1])) : w.heap.size ≤ gb158)); replace HB := aM (bwP (by apply_rules (transparency := .reducible) [HB.1, bwA, bwN, bwD, bwS, GE157.1]) hb); have NB157_158 := aM ((by rw [hg]; exact Nat.ne_of_lt (bkL (g := gb157) (o := .cells #[.int .i64 a0_0, .int .i32 a0_1, .bool a0_2, .bool true, .bool a0_4, .string a0_5] 25 (0, 0)) (by apply_rules (transparency := .reducible) [BK157.1, bkN, bkD, bkA])) : gb157 ≠ gb158)); have NB158_157 := aM ((by rw [hg]; exact Nat.ne_of_gt (bkL (g := gb157) (o := .cells #[.int .i64 a0_0, .int .i32 a0_1, .bool a0_2, .bool true, .bool a0_4, .string a0_5] 25 (0, 0)) (by apply_rules (transparency := .reducible) [BK157.1, bkN, bkD, bkA])) : gb158 ≠ gb157)); replace BK157 := aM (bkB (g := gb157) (o := .cells #[.int .i64 a0_0, .int .i32 a0_1, .bool a0_2, .bool true, .bool a0_4, .string a0_5] 25 (0, 0)) (by apply_rules (transparency := .reducible) [BK157.1, bkN, bkD, bkA]) hb); clear hb hbox hg) | ((with_reducible refine gate_dst (N := 3) rfl ?_); refine box_event ?hg (N := 3) ?hd (cs := #[.int .i64 0, .int .i64 0, .string (⟨#[]⟩ : ByteArray), .int .u8 0]) (t := 36) ?hr ?_; (case hd => rfl); (case hg => rfl); (case hr => first | (go_simp; done) | (go_simp; rfl)); intro gb159 hg w101 hbox hb; have BK159 := aM (hbox); have GW159 := aM ((by rw [hg]; exact (bwZ (by apply_rules (transparency := .reducible) [HB.1, bwA, bwN, bwD, bwS, GE157.1, GE158.1])) : w.heap.size ≤ gb159)); have GE159 := aM ((by rw [hg]; exact (bwZ (by apply_rules (transparency := .reducible) [HB.1, bwA, bwN, bwD, bwS, GE157.1, GE158.1])) : w.heap.size ≤ gb159)); replace HB := aM (bwP (by apply_rules (transparency := .reducible) [HB.1, bwA, bwN, bwD, bwS, GE157.1, GE158.1]) hb); have NB157_159 := aM ((by rw [hg]; exact Nat.ne_of_lt (bkL (g := gb157) (o := .cells #[.int .i64 a0_0, .int .i32 a0_1, .bool a0_2, .bool true, .bool a0_4, .string a0_5] 25 (0, 0)) (by apply_rules (transparency := .reducible) [BK157.1, bkN, bkD, bkA])) : gb157 ≠ gb159)); have NB159_157 := aM ((by rw [hg]; exact Nat.ne_of_gt (bkL (g := gb157) (o := .cells #[.int .i64 a0_0, .int .i32 a0_1, .bool a0_2, .bool true, .bool a0_4, .string a0_5] 25 (0, 0)) (by apply_rules (transparency := .reducible) [BK157.1, bkN, bkD, bkA])) : gb159 ≠ gb157)); replace BK157 := aM (bkB (g := gb157) (o := .cells #[.int .i64 a0_0, .int .i32 a0_1, .bool a0_2, .bool true, .bool a0_4, .string a0_5] 25 (0, 0)) (by apply_rules (transparency := .reducible) [BK157.1, bkN, bkD, bkA]) hb); have NB158_159 := aM ((by rw [hg]; exact Nat.ne_of_lt (bkL (g := gb158) (o := .cells #[.int .i64 0, .int .i64 0, .string (⟨#[]⟩ : ByteArray), .int .u8 0] 36 (0, 0)) (by apply_rules (transparency := .reducible) [BK158.1, bkN, bkD, bkA])) : gb158 ≠ gb159)); have NB159_158 := aM ((by rw [hg]; exact Nat.ne_of_gt (bkL (g := gb158) (o := .cells #[.int .i64 0, .int .i64 0, .string (⟨#[]⟩ : ByteArray), .int .u8 0] 36 (0, 0)) (by apply_rules (transparency := .reducible) [BK158.1, bkN, bkD, bkA])) : gb159 ≠ gb158)); replace BK158 := aM (bkB (g := gb158) (o := .cells #[.int .i64 0, .int .i64 0, .string (⟨#[]⟩ : ByteArray), .int .u8 0] 36 (0, 0)) (by apply_rules (transparency := .reducible) [BK158.1, bkN, bkD, bkA]) hb); clear hb hbox hg; have hnb102 := NB159_157.1; have hnc102 := NB157_159.1; have hnb103 := NB159_158.1; have hnc103 := NB158_159.1; obtain ⟨z104_0, z104_1, z104_2, z104_3, z104_4, z104_5, z104_6, z104_7⟩ := bx4 BK159.1; have hnb105 := NB157_158.1; have hnc105 := NB158_157.1; obtain ⟨z106_0, z106_1, z106_2, z106_3, z106_4, z106_5, z106_6, z106_7, z106_8, z106_9, z106_10, z106_11⟩ := bx6 BK157.1; obtain ⟨z107_0, z107_1, z107_2, z107_3, z107_4, z107_5, z107_6, z107_7⟩ := bx4 BK158.1))
    refine bodyPost_ret (results_cell_row rfl _ _ gb158 36 #[.int .i64 17, .int .i64 1, .string (⟨#[]⟩ : ByteArray), .int .u8 0] (0, 0) _ rfl (by (with_reducible repeat first | apply bkN | apply bkD | apply bkA); refine put4 (cs := #[.int .i64 0, .int .i64 0, .string (⟨#[]⟩ : ByteArray), .int .u8 0]) ?_ rfl; (with_reducible repeat first | apply bkN | apply bkD | apply bkA); refine bkR ?_ NB158_159.1 _; (with_reducible repeat first | apply bkN | apply bkD | apply bkA); refine bkR ?_ NB158_159.1 _; (with_reducible repeat first | apply bkN | apply bkD | apply bkA); refine bkR ?_ NB158_159.1 _; (with_reducible repeat first | apply bkN | apply bkD | apply bkA); refine bkR ?_ NB158_159.1 _; (with_reducible repeat first | apply bkN | apply bkD | apply bkA); refine bkR ?_ NB158_159.1 _; (with_reducible repeat first | apply bkN | apply bkD | apply bkA); exact BK158.1) Try.underlying36 rfl (by kernel_rfl)) rfl ?_
    exact ⟨rfl, by apply_rules (transparency := .reducible) [HB.1, bwA, bwN, bwD, bwS, GE157.1, GE158.1, GE159.1]⟩
   rw [if_neg c98] at H
   have c98b0 : (a0_1 == 63) = false := beq_eq_false_iff_ne.mpr c98
   have c98b1 : (a0_1 != 63) = true := bne_iff_ne.mpr c98
   simp only [Option.some.injEq, Prod.mk.injEq] at H
   obtain ⟨rfl, rfl, rfl, rfl⟩ := H
   go_enter Try.func33, Try.ntmps33
   go_wp2_with (first | ((with_reducible refine gate_dst (N := 1) rfl ?_); refine box_event ?hg (N := 1) ?hd (cs := #[.int .i64 a0_0, .int .i32 a0_1, .bool a0_2, .bool true, .bool a0_4, .string a0_5]) (t := 25) ?hr ?_; (case hd => rfl); (case hg => rfl); (case hr => first | (go_simp; done) | (go_simp; rfl)); intro gb157 hg w108 hbox hb; have BK157 := aM (hbox); have GW157 := aM ((by rw [hg]; exact (bwZ (by apply_rules (transparency := .reducible) [HB.1, bwA, bwN, bwD])) : w.heap.size ≤ gb157)); have GE157 := aM ((by rw [hg]; exact (bwZ (by apply_rules (transparency := .reducible) [HB.1, bwA, bwN, bwD])) : w.heap.size ≤ gb157)); replace HB := aM (bwP (by apply_rules (transparency := .reducible) [HB.1, bwA, bwN, bwD]) hb); clear hb hbox hg) | ((with_reducible refine gate_dst (N := 2) rfl ?_); refine box_event ?hg (N := 2) ?hd (cs := #[.int .i64 0, .int .i64 0, .string (⟨#[]⟩ : ByteArray), .int .u8 0]) (t := 36) ?hr ?_; (case hd => rfl); (case hg => rfl); (case hr => first | (go_simp; done) | (go_simp; rfl)); intro gb158 hg w109 hbox hb; have BK158 := aM (hbox); have GW158 := aM ((by rw [hg]; exact (bwZ (by apply_rules (transparency := .reducible) [HB.1, bwA, bwN, bwD, bwS, GE157.1])) : w.heap.size ≤ gb158)); have GE158 := aM ((by rw [hg]; exact (bwZ (by apply_rules (transparency := .reducible) [HB.1, bwA, bwN, bwD, bwS, GE157.1])) : w.heap.size ≤ gb158)); replace HB := aM (bwP (by apply_rules (transparency := .reducible) [HB.1, bwA, bwN, bwD, bwS, GE157.1]) hb); have NB157_158 := aM ((by rw [hg]; exact Nat.ne_of_lt (bkL (g := gb157) (o := .cells #[.int .i64 a0_0, .int .i32 a0_1, .bool a0_2, .bool true, .bool a0_4, .string a0_5] 25 (0, 0)) (by apply_rules (transparency := .reducible) [BK157.1, bkN, bkD, bkA])) : gb157 ≠ gb158)); have NB158_157 := aM ((by rw [hg]; exact Nat.ne_of_gt (bkL (g := gb157) (o := .cells #[.int .i64 a0_0, .int .i32 a0_1, .bool a0_2, .bool true, .bool a0_4, .string a0_5] 25 (0, 0)) (by apply_rules (transparency := .reducible) [BK157.1, bkN, bkD, bkA])) : gb158 ≠ gb157)); replace BK157 := aM (bkB (g := gb157) (o := .cells #[.int .i64 a0_0, .int .i32 a0_1, .bool a0_2, .bool true, .bool a0_4, .string a0_5] 25 (0, 0)) (by apply_rules (transparency := .reducible) [BK157.1, bkN, bkD, bkA]) hb); clear hb hbox hg) | ((with_reducible refine gate_dst (N := 3) rfl ?_); refine box_event ?hg (N := 3) ?hd (cs := #[.int .i64 0, .int .i64 0, .string (⟨#[]⟩ : ByteArray), .int .u8 0]) (t := 36) ?hr ?_; (case hd => rfl); (case hg => rfl); (case hr => first | (go_simp; done) | (go_simp; rfl)); intro gb159 hg w110 hbox hb; have BK159 := aM (hbox); have GW159 := aM ((by rw [hg]; exact (bwZ (by apply_rules (transparency := .reducible) [HB.1, bwA, bwN, bwD, bwS, GE157.1, GE158.1])) : w.heap.size ≤ gb159)); have GE159 := aM ((by rw [hg]; exact (bwZ (by apply_rules (transparency := .reducible) [HB.1, bwA, bwN, bwD, bwS, GE157.1, GE158.1])) : w.heap.size ≤ gb159)); replace HB := aM (bwP (by apply_rules (transparency := .reducible) [HB.1, bwA, bwN, bwD, bwS, GE157.1, GE158.1]) hb); have NB157_159 := aM ((by rw [hg]; exact Nat.ne_of_lt (bkL (g := gb157) (o := .cells #[.int .i64 a0_0, .int .i32 a0_1, .bool a0_2, .bool true, .bool a0_4, .string a0_5] 25 (0, 0)) (by apply_rules (transparency := .reducible) [BK157.1, bkN, bkD, bkA])) : gb157 ≠ gb159)); have NB159_157 := aM ((by rw [hg]; exact Nat.ne_of_gt (bkL (g := gb157) (o := .cells #[.int .i64 a0_0, .int .i32 a0_1, .bool a0_2, .bool true, .bool a0_4, .string a0_5] 25 (0, 0)) (by apply_rules (transparency := .reducible) [BK157.1, bkN, bkD, bkA])) : gb159 ≠ gb157)); replace BK157 := aM (bkB (g := gb157) (o := .cells #[.int .i64 a0_0, .int .i32 a0_1, .bool a0_2, .bool true, .bool a0_4, .string a0_5] 25 (0, 0)) (by apply_rules (transparency := .reducible) [BK157.1, bkN, bkD, bkA]) hb); have NB158_159 := aM ((by rw [hg]; exact Nat.ne_of_lt (bkL (g := gb158) (o := .cells #[.int .i64 0, .int .i64 0, .string (⟨#[]⟩ : ByteArray), .int .u8 0] 36 (0, 0)) (by apply_rules (transparency := .reducible) [BK158.1, bkN, bkD, bkA])) : gb158 ≠ gb159)); have NB159_158 := aM ((by rw [hg]; exact Nat.ne_of_gt (bkL (g := gb158) (o := .cells #[.int .i64 0, .int .i64 0, .string (⟨#[]⟩ : ByteArray), .int .u8 0] 36 (0, 0)) (by apply_rules (transparency := .reducible) [BK158.1, bkN, bkD, bkA])) : gb159 ≠ gb158)); replace BK158 := aM (bkB (g := gb158) (o := .cells #[.int .i64 0, .int .i64 0, .string (⟨#[]⟩ : ByteArray), .int .u8 0] 36 (0, 0)) (by apply_rules (transparency := .reducible) [BK158.1, bkN, bkD, bkA]) hb); clear hb hbox hg; have hnb111 := NB159_157.1; have hnc111 := NB157_159.1; have hnb112 := NB159_158.1; have hnc112 := NB158_159.1; obtain ⟨z113_0, z113_1, z113_2, z113_3, z113_4, z113_5, z113_6, z113_7⟩ := bx4 BK159.1; have hnb114 := NB157_158.1; have hnc114 := NB158_157.1; obtain ⟨z115_0, z115_1, z115_2, z115_3, z115_4, z115_5, z115_6, z115_7, z115_8, z115_9, z115_10, z115_11⟩ := bx6 BK157.1; obtain ⟨z116_0, z116_1, z116_2, z116_3, z116_4, z116_5, z116_6, z116_7⟩ := bx4 BK158.1))
   refine bodyPost_ret (results_cell_row rfl _ _ gb158 36 #[.int .i64 40, .int .i64 1, .string (⟨#[]⟩ : ByteArray), .int .u8 0] (0, 0) _ rfl (by (with_reducible repeat first | apply bkN | apply bkD | apply bkA); refine put4 (cs := #[.int .i64 0, .int .i64 0, .string (⟨#[]⟩ : ByteArray), .int .u8 0]) ?_ rfl; (with_reducible repeat first | apply bkN | apply bkD | apply bkA); refine bkR ?_ NB158_159.1 _; (with_reducible repeat first | apply bkN | apply bkD | apply bkA); refine bkR ?_ NB158_159.1 _; (with_reducible repeat first | apply bkN | apply bkD | apply bkA); refine bkR ?_ NB158_159.1 _; (with_reducible repeat first | apply bkN | apply bkD | apply bkA); refine bkR ?_ NB158_159.1 _; (with_reducible repeat first | apply bkN | apply bkD | apply bkA); exact BK158.1) Try.underlying36 rfl (by kernel_rfl)) rfl ?_
   exact ⟨rfl, by apply_rules (transparency := .reducible) [HB.1, bwA, bwN, bwD, bwS, GE157.1, GE158.1, GE159.1]⟩
  replace c87 := Bool.eq_false_iff.mpr c87
  subst c87
  replace H : ((bind_controls.f).bind fun t176 => ((bind_in.f k t176 a0_1).bind fun t179 => (if t179 = 29 then (if t179 = 1 then (some (t179, 1, (⟨#[9]⟩ : ByteArray), 64)) else (some (t179, 1, (⟨#[]⟩ : ByteArray), 64))) else (if t179 = 1 then (some (t179, 1, (⟨#[9]⟩ : ByteArray), 0)) else (some (t179, 1, (⟨#[]⟩ : ByteArray), 0)))))) = some (r1, r2, r3, r4) := by rw [if_neg (show ¬ (false = true) by decide)] at H; exact H
  replace H := Option.bind_eq_some_iff.mp H
  obtain ⟨t176, A1170, H⟩ := H
  replace H : ((bind_in.f k t176 a0_1).bind fun t179 => (if t179 = 29 then (if t179 = 1 then (some (t179, 1, (⟨#[9]⟩ : ByteArray), 64)) else (some (t179, 1, (⟨#[]⟩ : ByteArray), 64))) else (if t179 = 1 then (some (t179, 1, (⟨#[9]⟩ : ByteArray), 0)) else (some (t179, 1, (⟨#[]⟩ : ByteArray), 0))))) = some (r1, r2, r3, r4) := H
  have A117 := aM A1170
  clear A1170
  replace H := Option.bind_eq_some_iff.mp H
  obtain ⟨t179, A1180, H⟩ := H
  replace H : (if t179 = 29 then (if t179 = 1 then (some (t179, 1, (⟨#[9]⟩ : ByteArray), 64)) else (some (t179, 1, (⟨#[]⟩ : ByteArray), 64))) else (if t179 = 1 then (some (t179, 1, (⟨#[9]⟩ : ByteArray), 0)) else (some (t179, 1, (⟨#[]⟩ : ByteArray), 0)))) = some (r1, r2, r3, r4) := H
  have A118 := aM A1180
  clear A1180
  by_cases c119 : t179 = 29
  ·rw [if_pos c119] at H
   have c119b0 : (t179 == 29) = true := beq_iff_eq.mpr c119
   have c119b1 : (t179 != 29) = false := bne_eq_false_iff_eq.mpr c119
   clear c119
   by_cases c120 : t179 = 1
   ·rw [if_pos c120] at H
    have c120b0 : (t179 == 1) = true := beq_iff_eq.mpr c120
    have c120b1 : (t179 != 1) = false := bne_eq_false_iff_eq.mpr c120
    clear c120
    simp only [Option.some.injEq, Prod.mk.injEq] at H
    obtain ⟨rfl, rfl, rfl, rfl⟩ := H
    go_enter Try.func33, Try.ntmps33
    try go_wp2_with (first | ((with_reducible refine gate_dst (N := 1) rfl ?_); refine box_event ?hg (N := 1) ?hd (cs := #[.int .i64 a0_0, .int .i32 a0_1, .bool a0_2, .bool false, .bool a0_4, .string a0_5]) (t := 25) ?hr ?_; (case hd => rfl); (case hg => rfl); (case hr => first | (go_simp; done) | (go_simp; rfl)); intro gb157 hg w121 hbox hb; have BK157 := aM (hbox); have GW157 := aM ((by rw [hg]; exact (bwZ (by apply_rules (transparency := .reducible) [HB.1, bwA, bwN, bwD])) : w.heap.size ≤ gb157)); have GE157 := aM ((by rw [hg]; exact (bwZ (by apply_rules (transparency := .reducible) [HB.1, bwA, bwN, bwD])) : w.heap.size ≤ gb157)); replace HB := aM (bwP (by apply_rules (transparency := .reducible) [HB.1, bwA, bwN, bwD]) hb); clear hb hbox hg) | ((with_reducible refine gate_dst (N := 2) rfl ?_); refine box_event ?hg (N := 2) ?hd (cs := #[.int .i64 0, .int .i64 0, .string (⟨#[]⟩ : ByteArray), .int .u8 0]) (t := 36) ?hr ?_; (case hd => rfl); (case hg => rfl); (case hr => first | (go_simp; done) | (go_simp; rfl)); intro gb158 hg w122 hbox hb; have BK158 := aM (hbox); have GW158 := aM ((by rw [hg]; exact (bwZ (by apply_rules (transparency := .reducible) [HB.1, bwA, bwN, bwD, bwS, GE157.1])) : w.heap.size ≤ gb158)); have GE158 := aM ((by rw [hg]; exact (bwZ (by apply_rules (transparency := .reducible) [HB.1, bwA, bwN, bwD, bwS, GE157.1])) : w.heap.size ≤ gb158)); replace HB := aM (bwP (by apply_rules (transparency := .reducible) [HB.1, bwA, bwN, bwD, bwS, GE157.1]) hb); have NB157_158 := aM ((by rw [hg]; exact Nat.ne_of_lt (bkL (g := gb157) (o := .cells #[.int .i64 a0_0, .int .i32 a0_1, .bool a0_2, .bool false, .bool a0_4, .string a0_5] 25 (0, 0)) (by apply_rules (transparency := .reducible) [BK157.1, bkN, bkD, bkA])) : gb157 ≠ gb158)); have NB158_157 := aM ((by rw [hg]; exact Nat.ne_of_gt (bkL (g := gb157) (o := .cells #[.int .i64 a0_0, .int .i32 a0_1, .bool a0_2, .bool false, .bool a0_4, .string a0_5] 25 (0, 0)) (by apply_rules (transparency := .reducible) [BK157.1, bkN, bkD, bkA])) : gb158 ≠ gb157)); replace BK157 := aM (bkB (g := gb157) (o := .cells #[.int .i64 a0_0, .int .i32 a0_1, .bool a0_2, .bool false, .bool a0_4, .string a0_5] 25 (0, 0)) (by apply_rules (transparency := .reducible) [BK157.1, bkN, bkD, bkA]) hb); clear hb hbox hg) | ((with_reducible refine gate_dst (N := 3) rfl ?_); refine box_event ?hg (N := 3) ?hd (cs := #[.int .i64 0, .int .i64 0, .string (⟨#[]⟩ : ByteArray), .int .u8 0]) (t := 36) ?hr ?_; (case hd => rfl); (case hg => rfl); (case hr => first | (go_simp; done) | (go_simp; rfl)); intro gb159 hg w123 hbox hb; have BK159 := aM (hbox); have GW159 := aM ((by rw [hg]; exact (bwZ (by apply_rules (transparency := .reducible) [HB.1, bwA, bwN, bwD, bwS, GE157.1, GE158.1])) : w.heap.size ≤ gb159)); have GE159 := aM ((by rw [hg]; exact (bwZ (by apply_rules (transparency := .reducible) [HB.1, bwA, bwN, bwD, bwS, GE157.1, GE158.1])) : w.heap.size ≤ gb159)); replace HB := aM (bwP (by apply_rules (transparency := .reducible) [HB.1, bwA, bwN, bwD, bwS, GE157.1, GE158.1]) hb); have NB157_159 := aM ((by rw [hg]; exact Nat.ne_of_lt (bkL (g := gb157) (o := .cells #[.int .i64 a0_0, .int .i32 a0_1, .bool a0_2, .bool false, .bool a0_4, .string a0_5] 25 (0, 0)) (by apply_rules (transparency := .reducible) [BK157.1, bkN, bkD, bkA])) : gb157 ≠ gb159)); have NB159_157 := aM ((by rw [hg]; exact Nat.ne_of_gt (bkL (g := gb157) (o := .cells #[.int .i64 a0_0, .int .i32 a0_1, .bool a0_2, .bool false, .bool a0_4, .string a0_5] 25 (0, 0)) (by apply_rules (transparency := .reducible) [BK157.1, bkN, bkD, bkA])) : gb159 ≠ gb157)); replace BK157 := aM (bkB (g := gb157) (o := .cells #[.int .i64 a0_0, .int .i32 a0_1, .bool a0_2, .bool false, .bool a0_4, .string a0_5] 25 (0, 0)) (by apply_rules (transparency := .reducible) [BK157.1, bkN, bkD, bkA]) hb); have NB158_159 := aM ((by rw [hg]; exact Nat.ne_of_lt (bkL (g := gb158) (o := .cells #[.int .i64 0, .int .i64 0, .string (⟨#[]⟩ : ByteArray), .int .u8 0] 36 (0, 0)) (by apply_rules (transparency := .reducible) [BK158.1, bkN, bkD, bkA])) : gb158 ≠ gb159)); have NB159_158 := aM ((by rw [hg]; exact Nat.ne_of_gt (bkL (g := gb158) (o := .cells #[.int .i64 0, .int .i64 0, .string (⟨#[]⟩ : ByteArray), .int .u8 0] 36 (0, 0)) (by apply_rules (transparency := .reducible) [BK158.1, bkN, bkD, bkA])) : gb159 ≠ gb158)); replace BK158 := aM (bkB (g := gb158) (o := .cells #[.int .i64 0, .int .i64 0, .string (⟨#[]⟩ : ByteArray), .int .u8 0] 36 (0, 0)) (by apply_rules (transparency := .reducible) [BK158.1, bkN, bkD, bkA]) hb); clear hb hbox hg; have hnb124 := NB159_157.1; have hnc124 := NB157_159.1; have hnb125 := NB159_158.1; have hnc125 := NB158_159.1; obtain ⟨z126_0, z126_1, z126_2, z126_3, z126_4, z126_5, z126_6, z126_7⟩ := bx4 BK159.1; have hnb127 := NB157_158.1; have hnc127 := NB158_157.1; obtain ⟨z128_0, z128_1, z128_2, z128_3, z128_4, z128_5, z128_6, z128_7, z128_8, z128_9, z128_10, z128_11⟩ := bx6 BK157.1))
    have n0_ : Aside0 (((((w123.setCell ⟨gb159, 0, none⟩ (.int .i64 40)).setCell ⟨gb159, 1, none⟩ (.int .i64 1)).setCell ⟨gb159, 2, none⟩ (.string (⟨#[]⟩ : ByteArray))).setCell ⟨gb159, 3, none⟩ (.int .u8 0)).heap[gb157]? = some (.cells #[.int .i64 a0_0, .int .i32 a0_1, .bool a0_2, .bool false, .bool a0_4, .string a0_5] 25 (0, 0))) := ⟨by apply_rules (transparency := .reducible) [BK157.1, bkN, bkD, bkA, bkR, NB157_159.1]⟩
    have n1_ : Aside0 (((((w123.setCell ⟨gb159, 0, none⟩ (.int .i64 40)).setCell ⟨gb159, 1, none⟩ (.int .i64 1)).setCell ⟨gb159, 2, none⟩ (.string (⟨#[]⟩ : ByteArray))).setCell ⟨gb159, 3, none⟩ (.int .u8 0)).heap[gb158]? = some (.cells #[.int .i64 0, .int .i64 0, .string (⟨#[]⟩ : ByteArray), .int .u8 0] 36 (0, 0))) := ⟨by apply_rules (transparency := .reducible) [BK158.1, bkN, bkD, bkA, bkR, NB158_159.1]⟩
    have n2_ : Aside0 (((((w123.setCell ⟨gb159, 0, none⟩ (.int .i64 40)).setCell ⟨gb159, 1, none⟩ (.int .i64 1)).setCell ⟨gb159, 2, none⟩ (.string (⟨#[]⟩ : ByteArray))).setCell ⟨gb159, 3, none⟩ (.int .u8 0)).heap[gb159]? = some (.cells #[.int .i64 40, .int .i64 1, .string (⟨#[]⟩ : ByteArray), .int .u8 0] 36 (0, 0))) := ⟨by (with_reducible repeat first | apply bkN | apply bkD | apply bkA); refine put4 (cs := #[.int .i64 0, .int .i64 0, .string (⟨#[]⟩ : ByteArray), .int .u8 0]) ?_ rfl; (with_reducible repeat first | apply bkN | apply bkD | apply bkA); exact BK159.1⟩
    have n3_ : Aside0 (Below w.heap.size w ((((w123.setCell ⟨gb159, 0, none⟩ (.int .i64 40)).setCell ⟨gb159, 1, none⟩ (.int .i64 1)).setCell ⟨gb159, 2, none⟩ (.string (⟨#[]⟩ : ByteArray))).setCell ⟨gb159, 3, none⟩ (.int .u8 0))) := ⟨by apply_rules (transparency := .reducible) [HB.1, bwA, bwN, bwD, bwS, GE157.1, GE158.1, GE159.1]⟩
    (try clear BK157)
    (try clear BK158)
    (try clear BK159)
    (try clear HB)
    generalize ((((w123.setCell ⟨gb159, 0, none⟩ (.int .i64 40)).setCell ⟨gb159, 1, none⟩ (.int .i64 1)).setCell ⟨gb159, 2, none⟩ (.string (⟨#[]⟩ : ByteArray))).setCell ⟨gb159, 3, none⟩ (.int .u8 0)) = w129 at n0_ n1_ n2_ n3_ ⊢
    have BK157 := n0_
    have BK158 := n1_
    have BK159 := n2_
    have HB := n3_
    clear n0_ n1_ n2_ n3_
    replace BK157 := aM (bkD BK157.1)
    replace BK158 := aM (bkD BK158.1)
    replace BK159 := aM (bkD BK159.1)
    replace HB := aM (bwD HB.1)
    refine start_ (n := 6) (S := fun w' => w'.cell? ⟨gb157, 0, none⟩ = some (.int .i64 a0_0) ∧ w'.cell? ⟨gb157, 1, none⟩ = some (.int .i32 a0_1) ∧ w'.cell? ⟨gb157, 2, none⟩ = some (.bool a0_2) ∧ w'.cell? ⟨gb157, 3, none⟩ = some (.bool false) ∧ w'.cell? ⟨gb157, 4, none⟩ = some (.bool a0_4) ∧ w'.cell? ⟨gb157, 5, none⟩ = some (.string a0_5)) (ds := []) #[false, false, false, false, false, false] (by kernel_rfl) rfl rfl ⟨(bkC BK157.1 0).trans rfl, (bkC BK157.1 1).trans rfl, (bkC BK157.1 2).trans rfl, (bkC BK157.1 3).trans rfl, (bkC BK157.1 4).trans rfl, (bkC BK157.1 5).trans rfl⟩ (fun hHeld => ?_)
    generalize w129.drew = w130 at BK157 BK158 BK159 HB hHeld ⊢
    refine pure_ (i := 1) (N := some 53) (v := ?_) (a' := ?_) #[false, true, false, false, false, false] rfl rfl (by kernel_rfl) (fun _ _ _ h => h) (Or.inl ⟨by rfl, ?_⟩) ?_ ?_
    rotate_left
    ·intro w'
     go_simp
     with_reducible rfl
    rotate_left
    ·simp only [Act.put, List.setIfInBounds_toArray, List.set_cons_zero, List.set_cons_succ, i64_w, i32_w]
     rfl
    refine take_ (i := 2) (N := some 54) (v := ?_) (a' := ?_) #[false, true, true, false, false, false] rfl rfl (by kernel_rfl) (fun _ _ _ h => h) (Or.inl ⟨by rfl, ?_⟩) hHeld ?_ ?_
    rotate_left
    ·rintro w' ⟨s0, s1, s2, s3, s4, s5⟩
     go_simp
     with_reducible rfl
    rotate_left
    ·simp only [Act.put, List.setIfInBounds_toArray, List.set_cons_zero, List.set_cons_succ, i64_w, i32_w]
     rfl
    refine one_ (i := 0) (N := some 52) #[true, true, true, false, false, false] rfl rfl (by kernel_rfl) (by decide) (fun K hK => ?_)
    refine goes_ Try.func47 (by kernel_rfl) rfl #[] (by rfl) rfl rfl (by (try simp only [List.map_toArray, List.map_cons, List.map_nil]); first | done | rfl) ?_
    with_reducible refine (bind_controls.calls  t176 _ A117.1).mono ?_
    rintro e w131 ⟨v177, rfl, ho0, hb⟩
    refine ⟨_, rfl, ?_⟩
    have HO178 := aM (Kd.R_lower ho0 (bwZ (by apply_rules (transparency := .reducible) [HB.1, bwA, bwN, bwD, bwS, GE157.1, GE158.1, GE159.1])))
    replace BK157 := aM (bkB (g := gb157) (o := .cells #[.int .i64 a0_0, .int .i32 a0_1, .bool a0_2, .bool false, .bool a0_4, .string a0_5] 25 (0, 0)) (by apply_rules (transparency := .reducible) [BK157.1, bkN, bkD, bkA]) hb)
    replace BK158 := aM (bkB (g := gb158) (o := .cells #[.int .i64 0, .int .i64 0, .string (⟨#[]⟩ : ByteArray), .int .u8 0] 36 (0, 0)) (by apply_rules (transparency := .reducible) [BK158.1, bkN, bkD, bkA]) hb)
    replace BK159 := aM (bkB (g := gb159) (o := .cells #[.int .i64 40, .int .i64 1, .string (⟨#[]⟩ : ByteArray), .int .u8 0] 36 (0, 0)) (by apply_rules (transparency := .reducible) [BK159.1, bkN, bkD, bkA]) hb)
    replace HB := aM (bwP (by apply_rules (transparency := .reducible) [HB.1, bwA, bwN, bwD, bwS, GE157.1, GE158.1, GE159.1]) hb)
    (try clear hb)
    (try clear ho0)
    obtain ⟨Ao132, co132, eo132⟩ := Kd.R_slice HO178.1
    (first | subst eo132 | (injection eo132 with f1_ f2_ f3_; have f4_ := f1_.symm; have f5_ := f3_.symm; clear f1_ f2_ f3_; subst f4_; subst f5_))
    refine hK.out _ _ ⟨(bkC BK157.1 0).trans rfl, (bkC BK157.1 1).trans rfl, (bkC BK157.1 2).trans rfl, (bkC BK157.1 3).trans rfl, (bkC BK157.1 4).trans rfl, (bkC BK157.1 5).trans rfl⟩ (fun hHeld => ?_)
    clear hK K
    refine norm_ (a' := ?_) ?_ ?_
    rotate_left
    ·show Act.put _ (some 52) _ = _
     simp only [Act.put, List.setIfInBounds_toArray, List.set_cons_zero, List.set_cons_succ, i64_w, i32_w]
     rfl
    refine one_ (i := 3) (N := some 55) #[true, true, true, true, false, false] rfl rfl (by kernel_rfl) (by decide) (fun K hK => ?_)
    refine goes_ Try.func45 (by kernel_rfl) rfl #[.slice Ao132 t176.length co132, .int .i32 a0_1] (by rfl) rfl rfl (by (try simp only [List.map_toArray, List.map_cons, List.map_nil]); first | done | rfl) ?_
    with_reducible refine (bind_in.calls k _ _ t176 a0_1 t179 _ ?side1 ?side2 A118.1).mono ?_
    (case side1 => repeat (first | exact (Kd.R_reads' HO178.1).2.2 | (with_reducible refine Kd.C_alloc ?_ _) | (with_reducible refine Kd.C_drewN ?_ _) | (with_reducible refine Kd.C_drew ?_)))
    (case side2 => exact (Kd.R_reads' HO178.1).2.1)
    rintro e w133 ⟨rfl, hb⟩
    refine ⟨_, rfl, ?_⟩
    replace HO178 := aM (Kd.R_below (by (with_reducible repeat first | apply Kd.R_alloc | apply Kd.R_drewN | apply Kd.R_drew); exact HO178.1) hb)
    replace BK157 := aM (bkB (g := gb157) (o := .cells #[.int .i64 a0_0, .int .i32 a0_1, .bool a0_2, .bool false, .bool a0_4, .string a0_5] 25 (0, 0)) (by apply_rules (transparency := .reducible) [BK157.1, bkN, bkD, bkA]) hb)
    replace BK158 := aM (bkB (g := gb158) (o := .cells #[.int .i64 0, .int .i64 0, .string (⟨#[]⟩ : ByteArray), .int .u8 0] 36 (0, 0)) (by apply_rules (transparency := .reducible) [BK158.1, bkN, bkD, bkA]) hb)
    replace BK159 := aM (bkB (g := gb159) (o := .cells #[.int .i64 40, .int .i64 1, .string (⟨#[]⟩ : ByteArray), .int .u8 0] 36 (0, 0)) (by apply_rules (transparency := .reducible) [BK159.1, bkN, bkD, bkA]) hb)
    replace HB := aM (bwP (by apply_rules (transparency := .reducible) [HB.1, bwA, bwN, bwD, bwS, GE157.1, GE158.1, GE159.1]) hb)
    (try clear hb)
    refine hK.out _ _ ⟨(bkC BK157.1 0).trans rfl, (bkC BK157.1 1).trans rfl, (bkC BK157.1 2).trans rfl, (bkC BK157.1 3).trans rfl, (bkC BK157.1 4).trans rfl, (bkC BK157.1 5).trans rfl⟩ (fun hHeld => ?_)
    clear hK K
    refine norm_ (a' := ?_) ?_ ?_
    rotate_left
    ·show Act.put _ (some 55) _ = _
     simp only [Act.put, List.setIfInBounds_toArray, List.set_cons_zero, List.set_cons_succ, i64_w, i32_w]
     rfl
    refine pure_ (i := 4) (N := some 56) (v := ?_) (a' := ?_) #[true, true, true, true, true, false] rfl rfl (by kernel_rfl) (fun _ _ _ h => h) (Or.inl ⟨by rfl, ?_⟩) ?_ ?_
    rotate_left
    ·intro w'
     go_simp
     with_reducible rfl
    rotate_left
    ·simp only [Act.put, List.setIfInBounds_toArray, List.set_cons_zero, List.set_cons_succ, i64_w, i32_w]
     rfl
    refine one_ (i := 5) (N := none) #[true, true, true, true, true, true] rfl rfl (by kernel_rfl) (by decide) (fun K hK => ?_)
    have hs134 : w133.cell? ⟨gb159, 0, none⟩ = some (.int .i64 40) := (bkC BK159.1 0).trans rfl
    have hfs134 := bkF BK159.1 0
    have hns134_0 := NB157_159.1
    have hns134_1 := NB158_159.1
    have hms134_0 := NB159_157.1
    have hms134_1 := NB159_158.1
    refine skip_ (w1 := ?_) (by rfl) rfl ?_ ?_
    rotate_left
    ·go_simp
     rfl
    refine hK.out _ _ ⟨((cell_far (p := ⟨gb159, _, none⟩) NB157_159.1 _).trans (hHeld.1)), ((cell_far (p := ⟨gb159, _, none⟩) NB157_159.1 _).trans (hHeld.2.1)), ((cell_far (p := ⟨gb159, _, none⟩) NB157_159.1 _).trans (hHeld.2.2.1)), ((cell_far (p := ⟨gb159, _, none⟩) NB157_159.1 _).trans (hHeld.2.2.2.1)), ((cell_far (p := ⟨gb159, _, none⟩) NB157_159.1 _).trans (hHeld.2.2.2.2.1)), ((cell_far (p := ⟨gb159, _, none⟩) NB157_159.1 _).trans (hHeld.2.2.2.2.2))⟩ (fun hHeld => ?_)
    clear hK K
    refine done_ (by kernel_rfl) ?_
    obtain ⟨z135_0, z135_1, z135_2, z135_3, z135_4, z135_5, z135_6, z135_7⟩ := bx4 BK159.1
    obtain ⟨z136_0, z136_1, z136_2, z136_3, z136_4, z136_5, z136_6, z136_7⟩ := bx4 BK158.1
    try go_wp2
    refine bodyPost_ret (results_cell_row rfl _ _ gb158 36 #[.int .i64 t179, .int .i64 1, .string (⟨#[9]⟩ : ByteArray), .int .u8 64] (0, 0) _ rfl (by (with_reducible repeat first | apply bkN | apply bkD | apply bkA); refine put4 (cs := #[.int .i64 0, .int .i64 0, .string (⟨#[]⟩ : ByteArray), .int .u8 0]) ?_ rfl; (with_reducible repeat first | apply bkN | apply bkD | apply bkA); refine bkR ?_ NB158_159.1 _; (with_reducible repeat first | apply bkN | apply bkD | apply bkA); refine bkR ?_ NB158_159.1 _; (with_reducible repeat first | apply bkN | apply bkD | apply bkA); refine bkR ?_ NB158_159.1 _; (with_reducible repeat first | apply bkN | apply bkD | apply bkA); exact BK158.1) Try.underlying36 rfl (by kernel_rfl)) rfl ?_
    exact ⟨rfl, by apply_rules (transparency := .reducible) [HB.1, bwA, bwN, bwD, bwS, GE157.1, GE158.1, GE159.1]⟩
   rw [if_neg c120] at H
   have c120b0 : (t179 == 1) = false := beq_eq_false_iff_ne.mpr c120
   have c120b1 : (t179 != 1) = true := bne_iff_ne.mpr c120
   simp only [Option.some.injEq, Prod.mk.injEq] at H
   obtain ⟨rfl, rfl, rfl, rfl⟩ := H
   go_enter Try.func33, Try.ntmps33
   try go_wp2_with (first | ((with_reducible refine gate_dst (N := 1) rfl ?_); refine box_event ?hg (N := 1) ?hd (cs := #[.int .i64 a0_0, .int .i32 a0_1, .bool a0_2, .bool false, .bool a0_4, .string a0_5]) (t := 25) ?hr ?_; (case hd => rfl); (case hg => rfl); (case hr => first | (go_simp; done) | (go_simp; rfl)); intro gb157 hg w137 hbox hb; have BK157 := aM (hbox); have GW157 := aM ((by rw [hg]; exact (bwZ (by apply_rules (transparency := .reducible) [HB.1, bwA, bwN, bwD])) : w.heap.size ≤ gb157)); have GE157 := aM ((by rw [hg]; exact (bwZ (by apply_rules (transparency := .reducible) [HB.1, bwA, bwN, bwD])) : w.heap.size ≤ gb157)); replace HB := aM (bwP (by apply_rules (transparency := .reducible) [HB.1, bwA, bwN, bwD]) hb); clear hb hbox hg) | ((with_reducible refine gate_dst (N := 2) rfl ?_); refine box_event ?hg (N := 2) ?hd (cs := #[.int .i64 0, .int .i64 0, .string (⟨#[]⟩ : ByteArray), .int .u8 0]) (t := 36) ?hr ?_; (case hd => rfl); (case hg => rfl); (case hr => first | (go_simp; done) | (go_simp; rfl)); intro gb158 hg w138 hbox hb; have BK158 := aM (hbox); have GW158 := aM ((by rw [hg]; exact (bwZ (by apply_rules (transparency := .reducible) [HB.1, bwA, bwN, bwD, bwS, GE157.1])) : w.heap.size ≤ gb158)); have GE158 := aM ((by rw [hg]; exact (bwZ (by apply_rules (transparency := .reducible) [HB.1, bwA, bwN, bwD, bwS, GE157.1])) : w.heap.size ≤ gb158)); replace HB := aM (bwP (by apply_rules (transparency := .reducible) [HB.1, bwA, bwN, bwD, bwS, GE157.1]) hb); have NB157_158 := aM ((by rw [hg]; exact Nat.ne_of_lt (bkL (g := gb157) (o := .cells #[.int .i64 a0_0, .int .i32 a0_1, .bool a0_2, .bool false, .bool a0_4, .string a0_5] 25 (0, 0)) (by apply_rules (transparency := .reducible) [BK157.1, bkN, bkD, bkA])) : gb157 ≠ gb158)); have NB158_157 := aM ((by rw [hg]; exact Nat.ne_of_gt (bkL (g := gb157) (o := .cells #[.int .i64 a0_0, .int .i32 a0_1, .bool a0_2, .bool false, .bool a0_4, .string a0_5] 25 (0, 0)) (by apply_rules (transparency := .reducible) [BK157.1, bkN, bkD, bkA])) : gb158 ≠ gb157)); replace BK157 := aM (bkB (g := gb157) (o := .cells #[.int .i64 a0_0, .int .i32 a0_1, .bool a0_2, .bool false, .bool a0_4, .string a0_5] 25 (0, 0)) (by apply_rules (transparency := .reducible) [BK157.1, bkN, bkD, bkA]) hb); clear hb hbox hg) | ((with_reducible refine gate_dst (N := 3) rfl ?_); refine box_event ?hg (N := 3) ?hd (cs := #[.int .i64 0, .int .i64 0, .string (⟨#[]⟩ : ByteArray), .int .u8 0]) (t := 36) ?hr ?_; (case hd => rfl); (case hg => rfl); (case hr => first | (go_simp; done) | (go_simp; rfl)); intro gb159 hg w139 hbox hb; have BK159 := aM (hbox); have GW159 := aM ((by rw [hg]; exact (bwZ (by apply_rules (transparency := .reducible) [HB.1, bwA, bwN, bwD, bwS, GE157.1, GE158.1])) : w.heap.size ≤ gb159)); have GE159 := aM ((by rw [hg]; exact (bwZ (by apply_rules (transparency := .reducible) [HB.1, bwA, bwN, bwD, bwS, GE157.1, GE158.1])) : w.heap.size ≤ gb159)); replace HB := aM (bwP (by apply_rules (transparency := .reducible) [HB.1, bwA, bwN, bwD, bwS, GE157.1, GE158.1]) hb); have NB157_159 := aM ((by rw [hg]; exact Nat.ne_of_lt (bkL (g := gb157) (o := .cells #[.int .i64 a0_0, .int .i32 a0_1, .bool a0_2, .bool false, .bool a0_4, .string a0_5] 25 (0, 0)) (by apply_rules (transparency := .reducible) [BK157.1, bkN, bkD, bkA])) : gb157 ≠ gb159)); have NB159_157 := aM ((by rw [hg]; exact Nat.ne_of_gt (bkL (g := gb157) (o := .cells #[.int .i64 a0_0, .int .i32 a0_1, .bool a0_2, .bool false, .bool a0_4, .string a0_5] 25 (0, 0)) (by apply_rules (transparency := .reducible) [BK157.1, bkN, bkD, bkA])) : gb159 ≠ gb157)); replace BK157 := aM (bkB (g := gb157) (o := .cells #[.int .i64 a0_0, .int .i32 a0_1, .bool a0_2, .bool false, .bool a0_4, .string a0_5] 25 (0, 0)) (by apply_rules (transparency := .reducible) [BK157.1, bkN, bkD, bkA]) hb); have NB158_159 := aM ((by rw [hg]; exact Nat.ne_of_lt (bkL (g := gb158) (o := .cells #[.int .i64 0, .int .i64 0, .string (⟨#[]⟩ : ByteArray), .int .u8 0] 36 (0, 0)) (by apply_rules (transparency := .reducible) [BK158.1, bkN, bkD, bkA])) : gb158 ≠ gb159)); have NB159_158 := aM ((by rw [hg]; exact Nat.ne_of_gt (bkL (g := gb158) (o := .cells #[.int .i64 0, .int .i64 0, .string (⟨#[]⟩ : ByteArray), .int .u8 0] 36 (0, 0)) (by apply_rules (transparency := .reducible) [BK158.1, bkN, bkD, bkA])) : gb159 ≠ gb158)); replace BK158 := aM (bkB (g := gb158) (o := .cells #[.int .i64 0, .int .i64 0, .string (⟨#[]⟩ : ByteArray), .int .u8 0] 36 (0, 0)) (by apply_rules (transparency := .reducible) [BK158.1, bkN, bkD, bkA]) hb); clear hb hbox hg; have hnb140 := NB159_157.1; have hnc140 := NB157_159.1; have hnb141 := NB159_158.1; have hnc141 := NB158_159.1; obtain ⟨z142_0, z142_1, z142_2, z142_3, z142_4, z142_5, z142_6, z142_7⟩ := bx4 BK159.1; have hnb143 := NB157_158.1; have hnc143 := NB158_157.1; obtain ⟨z144_0, z144_1, z144_2, z144_3, z144_4, z144_5, z144_6, z144_7, z144_8, z144_9, z144_10, z144_11⟩ := bx6 BK157.1))
   have n0_ : Aside0 (((((w139.setCell ⟨gb159, 0, none⟩ (.int .i64 40)).setCell ⟨gb159, 1, none⟩ (.int .i64 1)).setCell ⟨gb159, 2, none⟩ (.string (⟨#[]⟩ : ByteArray))).setCell ⟨gb159, 3, none⟩ (.int .u8 0)).heap[gb157]? = some (.cells #[.int .i64 a0_0, .int .i32 a0_1, .bool a0_2, .bool false, .bool a0_4, .string a0_5] 25 (0, 0))) := ⟨by apply_rules (transparency := .reducible) [BK157.1, bkN, bkD, bkA, bkR, NB157_159.1]⟩
   have n1_ : Aside0 (((((w139.setCell ⟨gb159, 0, none⟩ (.int .i64 40)).setCell ⟨gb159, 1, none⟩ (.int .i64 1)).setCell ⟨gb159, 2, none⟩ (.string (⟨#[]⟩ : ByteArray))).setCell ⟨gb159, 3, none⟩ (.int .u8 0)).heap[gb158]? = some (.cells #[.int .i64 0, .int .i64 0, .string (⟨#[]⟩ : ByteArray), .int .u8 0] 36 (0, 0))) := ⟨by apply_rules (transparency := .reducible) [BK158.1, bkN, bkD, bkA, bkR, NB158_159.1]⟩
   have n2_ : Aside0 (((((w139.setCell ⟨gb159, 0, none⟩ (.int .i64 40)).setCell ⟨gb159, 1, none⟩ (.int .i64 1)).setCell ⟨gb159, 2, none⟩ (.string (⟨#[]⟩ : ByteArray))).setCell ⟨gb159, 3, none⟩ (.int .u8 0)).heap[gb159]? = some (.cells #[.int .i64 40, .int .i64 1, .string (⟨#[]⟩ : ByteArray), .int .u8 0] 36 (0, 0))) := ⟨by (with_reducible repeat first | apply bkN | apply bkD | apply bkA); refine put4 (cs := #[.int .i64 0, .int .i64 0, .string (⟨#[]⟩ : ByteArray), .int .u8 0]) ?_ rfl; (with_reducible repeat first | apply bkN | apply bkD | apply bkA); exact BK159.1⟩
   have n3_ : Aside0 (Below w.heap.size w ((((w139.setCell ⟨gb159, 0, none⟩ (.int .i64 40)).setCell ⟨gb159, 1, none⟩ (.int .i64 1)).setCell ⟨gb159, 2, none⟩ (.string (⟨#[]⟩ : ByteArray))).setCell ⟨gb159, 3, none⟩ (.int .u8 0))) := ⟨by apply_rules (transparency := .reducible) [HB.1, bwA, bwN, bwD, bwS, GE157.1, GE158.1, GE159.1]⟩
   (try clear BK157)
   (try clear BK158)
   (try clear BK159)
   (try clear HB)
   generalize ((((w139.setCell ⟨gb159, 0, none⟩ (.int .i64 40)).setCell ⟨gb159, 1, none⟩ (.int .i64 1)).setCell ⟨gb159, 2, none⟩ (.string (⟨#[]⟩ : ByteArray))).setCell ⟨gb159, 3, none⟩ (.int .u8 0)) = w145 at n0_ n1_ n2_ n3_ ⊢
   have BK157 := n0_
   have BK158 := n1_
   have BK159 := n2_
   have HB := n3_
   clear n0_ n1_ n2_ n3_
   replace BK157 := aM (bkD BK157.1)
   replace BK158 := aM (bkD BK158.1)
   replace BK159 := aM (bkD BK159.1)
   replace HB := aM (bwD HB.1)
   refine start_ (n := 6) (S := fun w' => w'.cell? ⟨gb157, 0, none⟩ = some (.int .i64 a0_0) ∧ w'.cell? ⟨gb157, 1, none⟩ = some (.int .i32 a0_1) ∧ w'.cell? ⟨gb157, 2, none⟩ = some (.bool a0_2) ∧ w'.cell? ⟨gb157, 3, none⟩ = some (.bool false) ∧ w'.cell? ⟨gb157, 4, none⟩ = some (.bool a0_4) ∧ w'.cell? ⟨gb157, 5, none⟩ = some (.string a0_5)) (ds := []) #[false, false, false, false, false, false] (by kernel_rfl) rfl rfl ⟨(bkC BK157.1 0).trans rfl, (bkC BK157.1 1).trans rfl, (bkC BK157.1 2).trans rfl, (bkC BK157.1 3).trans rfl, (bkC BK157.1 4).trans rfl, (bkC BK157.1 5).trans rfl⟩ (fun hHeld => ?_)
   generalize w145.drew = w146 at BK157 BK158 BK159 HB hHeld ⊢
   refine pure_ (i := 1) (N := some 53) (v := ?_) (a' := ?_) #[false, true, false, false, false, false] rfl rfl (by kernel_rfl) (fun _ _ _ h => h) (Or.inl ⟨by rfl, ?_⟩) ?_ ?_
   rotate_left
   ·intro w'
    go_simp
    with_reducible rfl
   rotate_left
   ·simp only [Act.put, List.setIfInBounds_toArray, List.set_cons_zero, List.set_cons_succ, i64_w, i32_w]
    rfl
   refine take_ (i := 2) (N := some 54) (v := ?_) (a' := ?_) #[false, true, true, false, false, false] rfl rfl (by kernel_rfl) (fun _ _ _ h => h) (Or.inl ⟨by rfl, ?_⟩) hHeld ?_ ?_
   rotate_left
   ·rintro w' ⟨s0, s1, s2, s3, s4, s5⟩
    go_simp
    with_reducible rfl
   rotate_left
   ·simp only [Act.put, List.setIfInBounds_toArray, List.set_cons_zero, List.set_cons_succ, i64_w, i32_w]
    rfl
   refine one_ (i := 0) (N := some 52) #[true, true, true, false, false, false] rfl rfl (by kernel_rfl) (by decide) (fun K hK => ?_)
   refine goes_ Try.func47 (by kernel_rfl) rfl #[] (by rfl) rfl rfl (by (try simp only [List.map_toArray, List.map_cons, List.map_nil]); first | done | rfl) ?_
   with_reducible refine (bind_controls.calls  t176 _ A117.1).mono ?_
   rintro e w147 ⟨v177, rfl, ho0, hb⟩
   refine ⟨_, rfl, ?_⟩
   have HO178 := aM (Kd.R_lower ho0 (bwZ (by apply_rules (transparency := .reducible) [HB.1, bwA, bwN, bwD, bwS, GE157.1, GE158.1, GE159.1])))
   replace BK157 := aM (bkB (g := gb157) (o := .cells #[.int .i64 a0_0, .int .i32 a0_1, .bool a0_2, .bool false, .bool a0_4, .string a0_5] 25 (0, 0)) (by apply_rules (transparency := .reducible) [BK157.1, bkN, bkD, bkA]) hb)
   replace BK158 := aM (bkB (g := gb158) (o := .cells #[.int .i64 0, .int .i64 0, .string (⟨#[]⟩ : ByteArray), .int .u8 0] 36 (0, 0)) (by apply_rules (transparency := .reducible) [BK158.1, bkN, bkD, bkA]) hb)
   replace BK159 := aM (bkB (g := gb159) (o := .cells #[.int .i64 40, .int .i64 1, .string (⟨#[]⟩ : ByteArray), .int .u8 0] 36 (0, 0)) (by apply_rules (transparency := .reducible) [BK159.1, bkN, bkD, bkA]) hb)
   replace HB := aM (bwP (by apply_rules (transparency := .reducible) [HB.1, bwA, bwN, bwD, bwS, GE157.1, GE158.1, GE159.1]) hb)
   (try clear hb)
   (try clear ho0)
   obtain ⟨Ao148, co148, eo148⟩ := Kd.R_slice HO178.1
   (first | subst eo148 | (injection eo148 with f1_ f2_ f3_; have f4_ := f1_.symm; have f5_ := f3_.symm; clear f1_ f2_ f3_; subst f4_; subst f5_))
   refine hK.out _ _ ⟨(bkC BK157.1 0).trans rfl, (bkC BK157.1 1).trans rfl, (bkC BK157.1 2).trans rfl, (bkC BK157.1 3).trans rfl, (bkC BK157.1 4).trans rfl, (bkC BK157.1 5).trans rfl⟩ (fun hHeld => ?_)
   clear hK K
   refine norm_ (a' := ?_) ?_ ?_
   rotate_left
   ·show Act.put _ (some 52) _ = _
    simp only [Act.put, List.setIfInBounds_toArray, List.set_cons_zero, List.set_cons_succ, i64_w, i32_w]
    rfl
   refine one_ (i := 3) (N := some 55) #[true, true, true, true, false, false] rfl rfl (by kernel_rfl) (by decide) (fun K hK => ?_)
   refine goes_ Try.func45 (by kernel_rfl) rfl #[.slice Ao148 t176.length co148, .int .i32 a0_1] (by rfl) rfl rfl (by (try simp only [List.map_toArray, List.map_cons, List.map_nil]); first | done | rfl) ?_
   with_reducible refine (bind_in.calls k _ _ t176 a0_1 t179 _ ?side1 ?side2 A118.1).mono ?_
   (case side1 => repeat (first | exact (Kd.R_reads' HO178.1).2.2 | (with_reducible refine Kd.C_alloc ?_ _) | (with_reducible refine Kd.C_drewN ?_ _) | (with_reducible refine Kd.C_drew ?_)))
   (case side2 => exact (Kd.R_reads' HO178.1).2.1)
   rintro e w149 ⟨rfl, hb⟩
   refine ⟨_, rfl, ?_⟩
   replace HO178 := aM (Kd.R_below (by (with_reducible repeat first | apply Kd.R_alloc | apply Kd.R_drewN | apply Kd.R_drew); exact HO178.1) hb)
   replace BK157 := aM (bkB (g := gb157) (o := .cells #[.int .i64 a0_0, .int .i32 a0_1, .bool a0_2, .bool false, .bool a0_4, .string a0_5] 25 (0, 0)) (by apply_rules (transparency := .reducible) [BK157.1, bkN, bkD, bkA]) hb)
   replace BK158 := aM (bkB (g := gb158) (o := .cells #[.int .i64 0, .int .i64 0, .string (⟨#[]⟩ : ByteArray), .int .u8 0] 36 (0, 0)) (by apply_rules (transparency := .reducible) [BK158.1, bkN, bkD, bkA]) hb)
   replace BK159 := aM (bkB (g := gb159) (o := .cells #[.int .i64 40, .int .i64 1, .string (⟨#[]⟩ : ByteArray), .int .u8 0] 36 (0, 0)) (by apply_rules (transparency := .reducible) [BK159.1, bkN, bkD, bkA]) hb)
   replace HB := aM (bwP (by apply_rules (transparency := .reducible) [HB.1, bwA, bwN, bwD, bwS, GE157.1, GE158.1, GE159.1]) hb)
   (try clear hb)
   refine hK.out _ _ ⟨(bkC BK157.1 0).trans rfl, (bkC BK157.1 1).trans rfl, (bkC BK157.1 2).trans rfl, (bkC BK157.1 3).trans rfl, (bkC BK157.1 4).trans rfl, (bkC BK157.1 5).trans rfl⟩ (fun hHeld => ?_)
   clear hK K
   refine norm_ (a' := ?_) ?_ ?_
   rotate_left
   ·show Act.put _ (some 55) _ = _
    simp only [Act.put, List.setIfInBounds_toArray, List.set_cons_zero, List.set_cons_succ, i64_w, i32_w]
    rfl
   refine pure_ (i := 4) (N := some 56) (v := ?_) (a' := ?_) #[true, true, true, true, true, false] rfl rfl (by kernel_rfl) (fun _ _ _ h => h) (Or.inl ⟨by rfl, ?_⟩) ?_ ?_
   rotate_left
   ·intro w'
    go_simp
    with_reducible rfl
   rotate_left
   ·simp only [Act.put, List.setIfInBounds_toArray, List.set_cons_zero, List.set_cons_succ, i64_w, i32_w]
    rfl
   refine one_ (i := 5) (N := none) #[true, true, true, true, true, true] rfl rfl (by kernel_rfl) (by decide) (fun K hK => ?_)
   have hs150 : w149.cell? ⟨gb159, 0, none⟩ = some (.int .i64 40) := (bkC BK159.1 0).trans rfl
   have hfs150 := bkF BK159.1 0
   have hns150_0 := NB157_159.1
   have hns150_1 := NB158_159.1
   have hms150_0 := NB159_157.1
   have hms150_1 := NB159_158.1
   refine skip_ (w1 := ?_) (by rfl) rfl ?_ ?_
   rotate_left
   ·go_simp
    rfl
   refine hK.out _ _ ⟨((cell_far (p := ⟨gb159, _, none⟩) NB157_159.1 _).trans (hHeld.1)), ((cell_far (p := ⟨gb159, _, none⟩) NB157_159.1 _).trans (hHeld.2.1)), ((cell_far (p := ⟨gb159, _, none⟩) NB157_159.1 _).trans (hHeld.2.2.1)), ((cell_far (p := ⟨gb159, _, none⟩) NB157_159.1 _).trans (hHeld.2.2.2.1)), ((cell_far (p := ⟨gb159, _, none⟩) NB157_159.1 _).trans (hHeld.2.2.2.2.1)), ((cell_far (p := ⟨gb159, _, none⟩) NB157_159.1 _).trans (hHeld.2.2.2.2.2))⟩ (fun hHeld => ?_)
   clear hK K
   refine done_ (by kernel_rfl) ?_
   obtain ⟨z151_0, z151_1, z151_2, z151_3, z151_4, z151_5, z151_6, z151_7⟩ := bx4 BK159.1
   obtain ⟨z152_0, z152_1, z152_2, z152_3, z152_4, z152_5, z152_6, z152_7⟩ := bx4 BK158.1
   try go_wp2
   refine bodyPost_ret (results_cell_row rfl _ _ gb158 36 #[.int .i64 t179, .int .i64 1, .string (⟨#[]⟩ : ByteArray), .int .u8 64] (0, 0) _ rfl (by (with_reducible repeat first | apply bkN | apply bkD | apply bkA); refine put4 (cs := #[.int .i64 0, .int .i64 0, .string (⟨#[]⟩ : ByteArray), .int .u8 0]) ?_ rfl; (with_reducible repeat first | apply bkN | apply bkD | apply bkA); refine bkR ?_ NB158_159.1 _; (with_reducible repeat first | apply bkN | apply bkD | apply bkA); refine bkR ?_ NB158_159.1 _; (with_reducible repeat first | apply bkN | apply bkD | apply bkA); exact BK158.1) Try.underlying36 rfl (by kernel_rfl)) rfl ?_
   exact ⟨rfl, by apply_rules (transparency := .reducible) [HB.1, bwA, bwN, bwD, bwS, GE157.1, GE158.1, GE159.1]⟩
  rw [if_neg c119] at H
  have c119b0 : (t179 == 29) = false := beq_eq_false_iff_ne.mpr c119
  have c119b1 : (t179 != 29) = true := bne_iff_ne.mpr c119
  by_cases c153 : t179 = 1
  ·rw [if_pos c153] at H
   have c153b0 : (t179 == 1) = true := beq_iff_eq.mpr c153
   have c153b1 : (t179 != 1) = false := bne_eq_false_iff_eq.mpr c153
   clear c153
   simp only [Option.some.injEq, Prod.mk.injEq] at H
   obtain ⟨rfl, rfl, rfl, rfl⟩ := H
   go_enter Try.func33, Try.ntmps33
   try go_wp2_with (first | ((with_reducible refine gate_dst (N := 1) rfl ?_); refine box_event ?hg (N := 1) ?hd (cs := #[.int .i64 a0_0, .int .i32 a0_1, .bool a0_2, .bool false, .bool a0_4, .string a0_5]) (t := 25) ?hr ?_; (case hd => rfl); (case hg => rfl); (case hr => first | (go_simp; done) | (go_simp; rfl)); intro gb157 hg w154 hbox hb; have BK157 := aM (hbox); have GW157 := aM ((by rw [hg]; exact (bwZ (by apply_rules (transparency := .reducible) [HB.1, bwA, bwN, bwD])) : w.heap.size ≤ gb157)); have GE157 := aM ((by rw [hg]; exact (bwZ (by apply_rules (transparency := .reducible) [HB.1, bwA, bwN, bwD])) : w.heap.size ≤ gb157)); replace HB := aM (bwP (by apply_rules (transparency := .reducible) [HB.1, bwA, bwN, bwD]) hb); clear hb hbox hg) | ((with_reducible refine gate_dst (N := 2) rfl ?_); refine box_event ?hg (N := 2) ?hd (cs := #[.int .i64 0, .int .i64 0, .string (⟨#[]⟩ : ByteArray), .int .u8 0]) (t := 36) ?hr ?_; (case hd => rfl); (case hg => rfl); (case hr => first | (go_simp; done) | (go_simp; rfl)); intro gb158 hg w155 hbox hb; have BK158 := aM (hbox); have GW158 := aM ((by rw [hg]; exact (bwZ (by apply_rules (transparency := .reducible) [HB.1, bwA, bwN, bwD, bwS, GE157.1])) : w.heap.size ≤ gb158)); have GE158 := aM ((by rw [hg]; exact (bwZ (by apply_rules (transparency := .reducible) [HB.1, bwA, bwN, bwD, bwS, GE157.1])) : w.heap.size ≤ gb158)); replace HB := aM (bwP (by apply_rules (transparency := .reducible) [HB.1, bwA, bwN, bwD, bwS, GE157.1]) hb); have NB157_158 := aM ((by rw [hg]; exact Nat.ne_of_lt (bkL (g := gb157) (o := .cells #[.int .i64 a0_0, .int .i32 a0_1, .bool a0_2, .bool false, .bool a0_4, .string a0_5] 25 (0, 0)) (by apply_rules (transparency := .reducible) [BK157.1, bkN, bkD, bkA])) : gb157 ≠ gb158)); have NB158_157 := aM ((by rw [hg]; exact Nat.ne_of_gt (bkL (g := gb157) (o := .cells #[.int .i64 a0_0, .int .i32 a0_1, .bool a0_2, .bool false, .bool a0_4, .string a0_5] 25 (0, 0)) (by apply_rules (transparency := .reducible) [BK157.1, bkN, bkD, bkA])) : gb158 ≠ gb157)); replace BK157 := aM (bkB (g := gb157) (o := .cells #[.int .i64 a0_0, .int .i32 a0_1, .bool a0_2, .bool false, .bool a0_4, .string a0_5] 25 (0, 0)) (by apply_rules (transparency := .reducible) [BK157.1, bkN, bkD, bkA]) hb); clear hb hbox hg) | ((with_reducible refine gate_dst (N := 3) rfl ?_); refine box_event ?hg (N := 3) ?hd (cs := #[.int .i64 0, .int .i64 0, .string (⟨#[]⟩ : ByteArray), .int .u8 0]) (t := 36) ?hr ?_; (case hd => rfl); (case hg => rfl); (case hr => first | (go_simp; done) | (go_simp; rfl)); intro gb159 hg w156 hbox hb; have BK159 := aM (hbox); have GW159 := aM ((by rw [hg]; exact (bwZ (by apply_rules (transparency := .reducible) [HB.1, bwA, bwN, bwD, bwS, GE157.1, GE158.1])) : w.heap.size ≤ gb159)); have GE159 := aM ((by rw [hg]; exact (bwZ (by apply_rules (transparency := .reducible) [HB.1, bwA, bwN, bwD, bwS, GE157.1, GE158.1])) : w.heap.size ≤ gb159)); replace HB := aM (bwP (by apply_rules (transparency := .reducible) [HB.1, bwA, bwN, bwD, bwS, GE157.1, GE158.1]) hb); have NB157_159 := aM ((by rw [hg]; exact Nat.ne_of_lt (bkL (g := gb157) (o := .cells #[.int .i64 a0_0, .int .i32 a0_1, .bool a0_2, .bool false, .bool a0_4, .string a0_5] 25 (0, 0)) (by apply_rules (transparency := .reducible) [BK157.1, bkN, bkD, bkA])) : gb157 ≠ gb159)); have NB159_157 := aM ((by rw [hg]; exact Nat.ne_of_gt (bkL (g := gb157) (o := .cells #[.int .i64 a0_0, .int .i32 a0_1, .bool a0_2, .bool false, .bool a0_4, .string a0_5] 25 (0, 0)) (by apply_rules (transparency := .reducible) [BK157.1, bkN, bkD, bkA])) : gb159 ≠ gb157)); replace BK157 := aM (bkB (g := gb157) (o := .cells #[.int .i64 a0_0, .int .i32 a0_1, .bool a0_2, .bool false, .bool a0_4, .string a0_5] 25 (0, 0)) (by apply_rules (transparency := .reducible) [BK157.1, bkN, bkD, bkA]) hb); have NB158_159 := aM ((by rw [hg]; exact Nat.ne_of_lt (bkL (g := gb158) (o := .cells #[.int .i64 0, .int .i64 0, .string (⟨#[]⟩ : ByteArray), .int .u8 0] 36 (0, 0)) (by apply_rules (transparency := .reducible) [BK158.1, bkN, bkD, bkA])) : gb158 ≠ gb159)); have NB159_158 := aM ((by rw [hg]; exact Nat.ne_of_gt (bkL (g := gb158) (o := .cells #[.int .i64 0, .int .i64 0, .string (⟨#[]⟩ : ByteArray), .int .u8 0] 36 (0, 0)) (by apply_rules (transparency := .reducible) [BK158.1, bkN, bkD, bkA])) : gb159 ≠ gb158)); replace BK158 := aM (bkB (g := gb158) (o := .cells #[.int .i64 0, .int .i64 0, .string (⟨#[]⟩ : ByteArray), .int .u8 0] 36 (0, 0)) (by apply_rules (transparency := .reducible) [BK158.1, bkN, bkD, bkA]) hb); clear hb hbox hg; have hnb157 := NB159_157.1; have hnc157 := NB157_159.1; have hnb158 := NB159_158.1; have hnc158 := NB158_159.1; obtain ⟨z159_0, z159_1, z159_2, z159_3, z159_4, z159_5, z159_6, z159_7⟩ := bx4 BK159.1; have hnb160 := NB157_158.1; have hnc160 := NB158_157.1; obtain ⟨z161_0, z161_1, z161_2, z161_3, z161_4, z161_5, z161_6, z161_7, z161_8, z161_9, z161_10, z161_11⟩ := bx6 BK157.1))
   have n0_ : Aside0 (((((w156.setCell ⟨gb159, 0, none⟩ (.int .i64 40)).setCell ⟨gb159, 1, none⟩ (.int .i64 1)).setCell ⟨gb159, 2, none⟩ (.string (⟨#[]⟩ : ByteArray))).setCell ⟨gb159, 3, none⟩ (.int .u8 0)).heap[gb157]? = some (.cells #[.int .i64 a0_0, .int .i32 a0_1, .bool a0_2, .bool false, .bool a0_4, .string a0_5] 25 (0, 0))) := ⟨by apply_rules (transparency := .reducible) [BK157.1, bkN, bkD, bkA, bkR, NB157_159.1]⟩
   have n1_ : Aside0 (((((w156.setCell ⟨gb159, 0, none⟩ (.int .i64 40)).setCell ⟨gb159, 1, none⟩ (.int .i64 1)).setCell ⟨gb159, 2, none⟩ (.string (⟨#[]⟩ : ByteArray))).setCell ⟨gb159, 3, none⟩ (.int .u8 0)).heap[gb158]? = some (.cells #[.int .i64 0, .int .i64 0, .string (⟨#[]⟩ : ByteArray), .int .u8 0] 36 (0, 0))) := ⟨by apply_rules (transparency := .reducible) [BK158.1, bkN, bkD, bkA, bkR, NB158_159.1]⟩
   have n2_ : Aside0 (((((w156.setCell ⟨gb159, 0, none⟩ (.int .i64 40)).setCell ⟨gb159, 1, none⟩ (.int .i64 1)).setCell ⟨gb159, 2, none⟩ (.string (⟨#[]⟩ : ByteArray))).setCell ⟨gb159, 3, none⟩ (.int .u8 0)).heap[gb159]? = some (.cells #[.int .i64 40, .int .i64 1, .string (⟨#[]⟩ : ByteArray), .int .u8 0] 36 (0, 0))) := ⟨by (with_reducible repeat first | apply bkN | apply bkD | apply bkA); refine put4 (cs := #[.int .i64 0, .int .i64 0, .string (⟨#[]⟩ : ByteArray), .int .u8 0]) ?_ rfl; (with_reducible repeat first | apply bkN | apply bkD | apply bkA); exact BK159.1⟩
   have n3_ : Aside0 (Below w.heap.size w ((((w156.setCell ⟨gb159, 0, none⟩ (.int .i64 40)).setCell ⟨gb159, 1, none⟩ (.int .i64 1)).setCell ⟨gb159, 2, none⟩ (.string (⟨#[]⟩ : ByteArray))).setCell ⟨gb159, 3, none⟩ (.int .u8 0))) := ⟨by apply_rules (transparency := .reducible) [HB.1, bwA, bwN, bwD, bwS, GE157.1, GE158.1, GE159.1]⟩
   (try clear BK157)
   (try clear BK158)
   (try clear BK159)
   (try clear HB)
   generalize ((((w156.setCell ⟨gb159, 0, none⟩ (.int .i64 40)).setCell ⟨gb159, 1, none⟩ (.int .i64 1)).setCell ⟨gb159, 2, none⟩ (.string (⟨#[]⟩ : ByteArray))).setCell ⟨gb159, 3, none⟩ (.int .u8 0)) = w162 at n0_ n1_ n2_ n3_ ⊢
   have BK157 := n0_
   have BK158 := n1_
   have BK159 := n2_
   have HB := n3_
   clear n0_ n1_ n2_ n3_
   replace BK157 := aM (bkD BK157.1)
   replace BK158 := aM (bkD BK158.1)
   replace BK159 := aM (bkD BK159.1)
   replace HB := aM (bwD HB.1)
   refine start_ (n := 6) (S := fun w' => w'.cell? ⟨gb157, 0, none⟩ = some (.int .i64 a0_0) ∧ w'.cell? ⟨gb157, 1, none⟩ = some (.int .i32 a0_1) ∧ w'.cell? ⟨gb157, 2, none⟩ = some (.bool a0_2) ∧ w'.cell? ⟨gb157, 3, none⟩ = some (.bool false) ∧ w'.cell? ⟨gb157, 4, none⟩ = some (.bool a0_4) ∧ w'.cell? ⟨gb157, 5, none⟩ = some (.string a0_5)) (ds := []) #[false, false, false, false, false, false] (by kernel_rfl) rfl rfl ⟨(bkC BK157.1 0).trans rfl, (bkC BK157.1 1).trans rfl, (bkC BK157.1 2).trans rfl, (bkC BK157.1 3).trans rfl, (bkC BK157.1 4).trans rfl, (bkC BK157.1 5).trans rfl⟩ (fun hHeld => ?_)
   generalize w162.drew = w163 at BK157 BK158 BK159 HB hHeld ⊢
   refine pure_ (i := 1) (N := some 53) (v := ?_) (a' := ?_) #[false, true, false, false, false, false] rfl rfl (by kernel_rfl) (fun _ _ _ h => h) (Or.inl ⟨by rfl, ?_⟩) ?_ ?_
   rotate_left
   ·intro w'
    go_simp
    with_reducible rfl
   rotate_left
   ·simp only [Act.put, List.setIfInBounds_toArray, List.set_cons_zero, List.set_cons_succ, i64_w, i32_w]
    rfl
   refine take_ (i := 2) (N := some 54) (v := ?_) (a' := ?_) #[false, true, true, false, false, false] rfl rfl (by kernel_rfl) (fun _ _ _ h => h) (Or.inl ⟨by rfl, ?_⟩) hHeld ?_ ?_
   rotate_left
   ·rintro w' ⟨s0, s1, s2, s3, s4, s5⟩
    go_simp
    with_reducible rfl
   rotate_left
   ·simp only [Act.put, List.setIfInBounds_toArray, List.set_cons_zero, List.set_cons_succ, i64_w, i32_w]
    rfl
   refine one_ (i := 0) (N := some 52) #[true, true, true, false, false, false] rfl rfl (by kernel_rfl) (by decide) (fun K hK => ?_)
   refine goes_ Try.func47 (by kernel_rfl) rfl #[] (by rfl) rfl rfl (by (try simp only [List.map_toArray, List.map_cons, List.map_nil]); first | done | rfl) ?_
   with_reducible refine (bind_controls.calls  t176 _ A117.1).mono ?_
   rintro e w164 ⟨v177, rfl, ho0, hb⟩
   refine ⟨_, rfl, ?_⟩
   have HO178 := aM (Kd.R_lower ho0 (bwZ (by apply_rules (transparency := .reducible) [HB.1, bwA, bwN, bwD, bwS, GE157.1, GE158.1, GE159.1])))
   replace BK157 := aM (bkB (g := gb157) (o := .cells #[.int .i64 a0_0, .int .i32 a0_1, .bool a0_2, .bool false, .bool a0_4, .string a0_5] 25 (0, 0)) (by apply_rules (transparency := .reducible) [BK157.1, bkN, bkD, bkA]) hb)
   replace BK158 := aM (bkB (g := gb158) (o := .cells #[.int .i64 0, .int .i64 0, .string (⟨#[]⟩ : ByteArray), .int .u8 0] 36 (0, 0)) (by apply_rules (transparency := .reducible) [BK158.1, bkN, bkD, bkA]) hb)
   replace BK159 := aM (bkB (g := gb159) (o := .cells #[.int .i64 40, .int .i64 1, .string (⟨#[]⟩ : ByteArray), .int .u8 0] 36 (0, 0)) (by apply_rules (transparency := .reducible) [BK159.1, bkN, bkD, bkA]) hb)
   replace HB := aM (bwP (by apply_rules (transparency := .reducible) [HB.1, bwA, bwN, bwD, bwS, GE157.1, GE158.1, GE159.1]) hb)
   (try clear hb)
   (try clear ho0)
   obtain ⟨Ao165, co165, eo165⟩ := Kd.R_slice HO178.1
   (first | subst eo165 | (injection eo165 with f1_ f2_ f3_; have f4_ := f1_.symm; have f5_ := f3_.symm; clear f1_ f2_ f3_; subst f4_; subst f5_))
   refine hK.out _ _ ⟨(bkC BK157.1 0).trans rfl, (bkC BK157.1 1).trans rfl, (bkC BK157.1 2).trans rfl, (bkC BK157.1 3).trans rfl, (bkC BK157.1 4).trans rfl, (bkC BK157.1 5).trans rfl⟩ (fun hHeld => ?_)
   clear hK K
   refine norm_ (a' := ?_) ?_ ?_
   rotate_left
   ·show Act.put _ (some 52) _ = _
    simp only [Act.put, List.setIfInBounds_toArray, List.set_cons_zero, List.set_cons_succ, i64_w, i32_w]
    rfl
   refine one_ (i := 3) (N := some 55) #[true, true, true, true, false, false] rfl rfl (by kernel_rfl) (by decide) (fun K hK => ?_)
   refine goes_ Try.func45 (by kernel_rfl) rfl #[.slice Ao165 t176.length co165, .int .i32 a0_1] (by rfl) rfl rfl (by (try simp only [List.map_toArray, List.map_cons, List.map_nil]); first | done | rfl) ?_
   with_reducible refine (bind_in.calls k _ _ t176 a0_1 t179 _ ?side1 ?side2 A118.1).mono ?_
   (case side1 => repeat (first | exact (Kd.R_reads' HO178.1).2.2 | (with_reducible refine Kd.C_alloc ?_ _) | (with_reducible refine Kd.C_drewN ?_ _) | (with_reducible refine Kd.C_drew ?_)))
   (case side2 => exact (Kd.R_reads' HO178.1).2.1)
   rintro e w166 ⟨rfl, hb⟩
   refine ⟨_, rfl, ?_⟩
   replace HO178 := aM (Kd.R_below (by (with_reducible repeat first | apply Kd.R_alloc | apply Kd.R_drewN | apply Kd.R_drew); exact HO178.1) hb)
   replace BK157 := aM (bkB (g := gb157) (o := .cells #[.int .i64 a0_0, .int .i32 a0_1, .bool a0_2, .bool false, .bool a0_4, .string a0_5] 25 (0, 0)) (by apply_rules (transparency := .reducible) [BK157.1, bkN, bkD, bkA]) hb)
   replace BK158 := aM (bkB (g := gb158) (o := .cells #[.int .i64 0, .int .i64 0, .string (⟨#[]⟩ : ByteArray), .int .u8 0] 36 (0, 0)) (by apply_rules (transparency := .reducible) [BK158.1, bkN, bkD, bkA]) hb)
   replace BK159 := aM (bkB (g := gb159) (o := .cells #[.int .i64 40, .int .i64 1, .string (⟨#[]⟩ : ByteArray), .int .u8 0] 36 (0, 0)) (by apply_rules (transparency := .reducible) [BK159.1, bkN, bkD, bkA]) hb)
   replace HB := aM (bwP (by apply_rules (transparency := .reducible) [HB.1, bwA, bwN, bwD, bwS, GE157.1, GE158.1, GE159.1]) hb)
   (try clear hb)
   refine hK.out _ _ ⟨(bkC BK157.1 0).trans rfl, (bkC BK157.1 1).trans rfl, (bkC BK157.1 2).trans rfl, (bkC BK157.1 3).trans rfl, (bkC BK157.1 4).trans rfl, (bkC BK157.1 5).trans rfl⟩ (fun hHeld => ?_)
   clear hK K
   refine norm_ (a' := ?_) ?_ ?_
   rotate_left
   ·show Act.put _ (some 55) _ = _
    simp only [Act.put, List.setIfInBounds_toArray, List.set_cons_zero, List.set_cons_succ, i64_w, i32_w]
    rfl
   refine pure_ (i := 4) (N := some 56) (v := ?_) (a' := ?_) #[true, true, true, true, true, false] rfl rfl (by kernel_rfl) (fun _ _ _ h => h) (Or.inl ⟨by rfl, ?_⟩) ?_ ?_
   rotate_left
   ·intro w'
    go_simp
    with_reducible rfl
   rotate_left
   ·simp only [Act.put, List.setIfInBounds_toArray, List.set_cons_zero, List.set_cons_succ, i64_w, i32_w]
    rfl
   refine one_ (i := 5) (N := none) #[true, true, true, true, true, true] rfl rfl (by kernel_rfl) (by decide) (fun K hK => ?_)
   have hs167 : w166.cell? ⟨gb159, 0, none⟩ = some (.int .i64 40) := (bkC BK159.1 0).trans rfl
   have hfs167 := bkF BK159.1 0
   have hns167_0 := NB157_159.1
   have hns167_1 := NB158_159.1
   have hms167_0 := NB159_157.1
   have hms167_1 := NB159_158.1
   refine skip_ (w1 := ?_) (by rfl) rfl ?_ ?_
   rotate_left
   ·go_simp
    rfl
   refine hK.out _ _ ⟨((cell_far (p := ⟨gb159, _, none⟩) NB157_159.1 _).trans (hHeld.1)), ((cell_far (p := ⟨gb159, _, none⟩) NB157_159.1 _).trans (hHeld.2.1)), ((cell_far (p := ⟨gb159, _, none⟩) NB157_159.1 _).trans (hHeld.2.2.1)), ((cell_far (p := ⟨gb159, _, none⟩) NB157_159.1 _).trans (hHeld.2.2.2.1)), ((cell_far (p := ⟨gb159, _, none⟩) NB157_159.1 _).trans (hHeld.2.2.2.2.1)), ((cell_far (p := ⟨gb159, _, none⟩) NB157_159.1 _).trans (hHeld.2.2.2.2.2))⟩ (fun hHeld => ?_)
   clear hK K
   refine done_ (by kernel_rfl) ?_
   obtain ⟨z168_0, z168_1, z168_2, z168_3, z168_4, z168_5, z168_6, z168_7⟩ := bx4 BK159.1
   obtain ⟨z169_0, z169_1, z169_2, z169_3, z169_4, z169_5, z169_6, z169_7⟩ := bx4 BK158.1
   try go_wp2
   refine bodyPost_ret (results_cell_row rfl _ _ gb158 36 #[.int .i64 t179, .int .i64 1, .string (⟨#[9]⟩ : ByteArray), .int .u8 0] (0, 0) _ rfl (by (with_reducible repeat first | apply bkN | apply bkD | apply bkA); refine put4 (cs := #[.int .i64 0, .int .i64 0, .string (⟨#[]⟩ : ByteArray), .int .u8 0]) ?_ rfl; (with_reducible repeat first | apply bkN | apply bkD | apply bkA); refine bkR ?_ NB158_159.1 _; (with_reducible repeat first | apply bkN | apply bkD | apply bkA); refine bkR ?_ NB158_159.1 _; (with_reducible repeat first | apply bkN | apply bkD | apply bkA); exact BK158.1) Try.underlying36 rfl (by kernel_rfl)) rfl ?_
   exact ⟨rfl, by apply_rules (transparency := .reducible) [HB.1, bwA, bwN, bwD, bwS, GE157.1, GE158.1, GE159.1]⟩
  rw [if_neg c153] at H
  have c153b0 : (t179 == 1) = false := beq_eq_false_iff_ne.mpr c153
  have c153b1 : (t179 != 1) = true := bne_iff_ne.mpr c153
  simp only [Option.some.injEq, Prod.mk.injEq] at H
  obtain ⟨rfl, rfl, rfl, rfl⟩ := H
  go_enter Try.func33, Try.ntmps33
  try go_wp2_with (first | ((with_reducible refine gate_dst (N := 1) rfl ?_); refine box_event ?hg (N := 1) ?hd (cs := #[.int .i64 a0_0, .int .i32 a0_1, .bool a0_2, .bool false, .bool a0_4, .string a0_5]) (t := 25) ?hr ?_; (case hd => rfl); (case hg => rfl); (case hr => first | (go_simp; done) | (go_simp; rfl)); intro gb157 hg w170 hbox hb; have BK157 := aM (hbox); have GW157 := aM ((by rw [hg]; exact (bwZ (by apply_rules (transparency := .reducible) [HB.1, bwA, bwN, bwD])) : w.heap.size ≤ gb157)); have GE157 := aM ((by rw [hg]; exact (bwZ (by apply_rules (transparency := .reducible) [HB.1, bwA, bwN, bwD])) : w.heap.size ≤ gb157)); replace HB := aM (bwP (by apply_rules (transparency := .reducible) [HB.1, bwA, bwN, bwD]) hb); clear hb hbox hg) | ((with_reducible refine gate_dst (N := 2) rfl ?_); refine box_event ?hg (N := 2) ?hd (cs := #[.int .i64 0, .int .i64 0, .string (⟨#[]⟩ : ByteArray), .int .u8 0]) (t := 36) ?hr ?_; (case hd => rfl); (case hg => rfl); (case hr => first | (go_simp; done) | (go_simp; rfl)); intro gb158 hg w171 hbox hb; have BK158 := aM (hbox); have GW158 := aM ((by rw [hg]; exact (bwZ (by apply_rules (transparency := .reducible) [HB.1, bwA, bwN, bwD, bwS, GE157.1])) : w.heap.size ≤ gb158)); have GE158 := aM ((by rw [hg]; exact (bwZ (by apply_rules (transparency := .reducible) [HB.1, bwA, bwN, bwD, bwS, GE157.1])) : w.heap.size ≤ gb158)); replace HB := aM (bwP (by apply_rules (transparency := .reducible) [HB.1, bwA, bwN, bwD, bwS, GE157.1]) hb); have NB157_158 := aM ((by rw [hg]; exact Nat.ne_of_lt (bkL (g := gb157) (o := .cells #[.int .i64 a0_0, .int .i32 a0_1, .bool a0_2, .bool false, .bool a0_4, .string a0_5] 25 (0, 0)) (by apply_rules (transparency := .reducible) [BK157.1, bkN, bkD, bkA])) : gb157 ≠ gb158)); have NB158_157 := aM ((by rw [hg]; exact Nat.ne_of_gt (bkL (g := gb157) (o := .cells #[.int .i64 a0_0, .int .i32 a0_1, .bool a0_2, .bool false, .bool a0_4, .string a0_5] 25 (0, 0)) (by apply_rules (transparency := .reducible) [BK157.1, bkN, bkD, bkA])) : gb158 ≠ gb157)); replace BK157 := aM (bkB (g := gb157) (o := .cells #[.int .i64 a0_0, .int .i32 a0_1, .bool a0_2, .bool false, .bool a0_4, .string a0_5] 25 (0, 0)) (by apply_rules (transparency := .reducible) [BK157.1, bkN, bkD, bkA]) hb); clear hb hbox hg) | ((with_reducible refine gate_dst (N := 3) rfl ?_); refine box_event ?hg (N := 3) ?hd (cs := #[.int .i64 0, .int .i64 0, .string (⟨#[]⟩ : ByteArray), .int .u8 0]) (t := 36) ?hr ?_; (case hd => rfl); (case hg => rfl); (case hr => first | (go_simp; done) | (go_simp; rfl)); intro gb159 hg w172 hbox hb; have BK159 := aM (hbox); have GW159 := aM ((by rw [hg]; exact (bwZ (by apply_rules (transparency := .reducible) [HB.1, bwA, bwN, bwD, bwS, GE157.1, GE158.1])) : w.heap.size ≤ gb159)); have GE159 := aM ((by rw [hg]; exact (bwZ (by apply_rules (transparency := .reducible) [HB.1, bwA, bwN, bwD, bwS, GE157.1, GE158.1])) : w.heap.size ≤ gb159)); replace HB := aM (bwP (by apply_rules (transparency := .reducible) [HB.1, bwA, bwN, bwD, bwS, GE157.1, GE158.1]) hb); have NB157_159 := aM ((by rw [hg]; exact Nat.ne_of_lt (bkL (g := gb157) (o := .cells #[.int .i64 a0_0, .int .i32 a0_1, .bool a0_2, .bool false, .bool a0_4, .string a0_5] 25 (0, 0)) (by apply_rules (transparency := .reducible) [BK157.1, bkN, bkD, bkA])) : gb157 ≠ gb159)); have NB159_157 := aM ((by rw [hg]; exact Nat.ne_of_gt (bkL (g := gb157) (o := .cells #[.int .i64 a0_0, .int .i32 a0_1, .bool a0_2, .bool false, .bool a0_4, .string a0_5] 25 (0, 0)) (by apply_rules (transparency := .reducible) [BK157.1, bkN, bkD, bkA])) : gb159 ≠ gb157)); replace BK157 := aM (bkB (g := gb157) (o := .cells #[.int .i64 a0_0, .int .i32 a0_1, .bool a0_2, .bool false, .bool a0_4, .string a0_5] 25 (0, 0)) (by apply_rules (transparency := .reducible) [BK157.1, bkN, bkD, bkA]) hb); have NB158_159 := aM ((by rw [hg]; exact Nat.ne_of_lt (bkL (g := gb158) (o := .cells #[.int .i64 0, .int .i64 0, .string (⟨#[]⟩ : ByteArray), .int .u8 0] 36 (0, 0)) (by apply_rules (transparency := .reducible) [BK158.1, bkN, bkD, bkA])) : gb158 ≠ gb159)); have NB159_158 := aM ((by rw [hg]; exact Nat.ne_of_gt (bkL (g := gb158) (o := .cells #[.int .i64 0, .int .i64 0, .string (⟨#[]⟩ : ByteArray), .int .u8 0] 36 (0, 0)) (by apply_rules (transparency := .reducible) [BK158.1, bkN, bkD, bkA])) : gb159 ≠ gb158)); replace BK158 := aM (bkB (g := gb158) (o := .cells #[.int .i64 0, .int .i64 0, .string (⟨#[]⟩ : ByteArray), .int .u8 0] 36 (0, 0)) (by apply_rules (transparency := .reducible) [BK158.1, bkN, bkD, bkA]) hb); clear hb hbox hg; have hnb173 := NB159_157.1; have hnc173 := NB157_159.1; have hnb174 := NB159_158.1; have hnc174 := NB158_159.1; obtain ⟨z175_0, z175_1, z175_2, z175_3, z175_4, z175_5, z175_6, z175_7⟩ := bx4 BK159.1; have hnb176 := NB157_158.1; have hnc176 := NB158_157.1; obtain ⟨z177_0, z177_1, z177_2, z177_3, z177_4, z177_5, z177_6, z177_7, z177_8, z177_9, z177_10, z177_11⟩ := bx6 BK157.1))
  have n0_ : Aside0 (((((w172.setCell ⟨gb159, 0, none⟩ (.int .i64 40)).setCell ⟨gb159, 1, none⟩ (.int .i64 1)).setCell ⟨gb159, 2, none⟩ (.string (⟨#[]⟩ : ByteArray))).setCell ⟨gb159, 3, none⟩ (.int .u8 0)).heap[gb157]? = some (.cells #[.int .i64 a0_0, .int .i32 a0_1, .bool a0_2, .bool false, .bool a0_4, .string a0_5] 25 (0, 0))) := ⟨by apply_rules (transparency := .reducible) [BK157.1, bkN, bkD, bkA, bkR, NB157_159.1]⟩
  have n1_ : Aside0 (((((w172.setCell ⟨gb159, 0, none⟩ (.int .i64 40)).setCell ⟨gb159, 1, none⟩ (.int .i64 1)).setCell ⟨gb159, 2, none⟩ (.string (⟨#[]⟩ : ByteArray))).setCell ⟨gb159, 3, none⟩ (.int .u8 0)).heap[gb158]? = some (.cells #[.int .i64 0, .int .i64 0, .string (⟨#[]⟩ : ByteArray), .int .u8 0] 36 (0, 0))) := ⟨by apply_rules (transparency := .reducible) [BK158.1, bkN, bkD, bkA, bkR, NB158_159.1]⟩
  have n2_ : Aside0 (((((w172.setCell ⟨gb159, 0, none⟩ (.int .i64 40)).setCell ⟨gb159, 1, none⟩ (.int .i64 1)).setCell ⟨gb159, 2, none⟩ (.string (⟨#[]⟩ : ByteArray))).setCell ⟨gb159, 3, none⟩ (.int .u8 0)).heap[gb159]? = some (.cells #[.int .i64 40, .int .i64 1, .string (⟨#[]⟩ : ByteArray), .int .u8 0] 36 (0, 0))) := ⟨by (with_reducible repeat first | apply bkN | apply bkD | apply bkA); refine put4 (cs := #[.int .i64 0, .int .i64 0, .string (⟨#[]⟩ : ByteArray), .int .u8 0]) ?_ rfl; (with_reducible repeat first | apply bkN | apply bkD | apply bkA); exact BK159.1⟩
  have n3_ : Aside0 (Below w.heap.size w ((((w172.setCell ⟨gb159, 0, none⟩ (.int .i64 40)).setCell ⟨gb159, 1, none⟩ (.int .i64 1)).setCell ⟨gb159, 2, none⟩ (.string (⟨#[]⟩ : ByteArray))).setCell ⟨gb159, 3, none⟩ (.int .u8 0))) := ⟨by apply_rules (transparency := .reducible) [HB.1, bwA, bwN, bwD, bwS, GE157.1, GE158.1, GE159.1]⟩
  (try clear BK157)
  (try clear BK158)
  (try clear BK159)
  (try clear HB)
  generalize ((((w172.setCell ⟨gb159, 0, none⟩ (.int .i64 40)).setCell ⟨gb159, 1, none⟩ (.int .i64 1)).setCell ⟨gb159, 2, none⟩ (.string (⟨#[]⟩ : ByteArray))).setCell ⟨gb159, 3, none⟩ (.int .u8 0)) = w178 at n0_ n1_ n2_ n3_ ⊢
  have BK157 := n0_
  have BK158 := n1_
  have BK159 := n2_
  have HB := n3_
  clear n0_ n1_ n2_ n3_
  replace BK157 := aM (bkD BK157.1)
  replace BK158 := aM (bkD BK158.1)
  replace BK159 := aM (bkD BK159.1)
  replace HB := aM (bwD HB.1)
  refine start_ (n := 6) (S := fun w' => w'.cell? ⟨gb157, 0, none⟩ = some (.int .i64 a0_0) ∧ w'.cell? ⟨gb157, 1, none⟩ = some (.int .i32 a0_1) ∧ w'.cell? ⟨gb157, 2, none⟩ = some (.bool a0_2) ∧ w'.cell? ⟨gb157, 3, none⟩ = some (.bool false) ∧ w'.cell? ⟨gb157, 4, none⟩ = some (.bool a0_4) ∧ w'.cell? ⟨gb157, 5, none⟩ = some (.string a0_5)) (ds := []) #[false, false, false, false, false, false] (by kernel_rfl) rfl rfl ⟨(bkC BK157.1 0).trans rfl, (bkC BK157.1 1).trans rfl, (bkC BK157.1 2).trans rfl, (bkC BK157.1 3).trans rfl, (bkC BK157.1 4).trans rfl, (bkC BK157.1 5).trans rfl⟩ (fun hHeld => ?_)
  generalize w178.drew = w179 at BK157 BK158 BK159 HB hHeld ⊢
  refine pure_ (i := 1) (N := some 53) (v := ?_) (a' := ?_) #[false, true, false, false, false, false] rfl rfl (by kernel_rfl) (fun _ _ _ h => h) (Or.inl ⟨by rfl, ?_⟩) ?_ ?_
  rotate_left
  ·intro w'
   go_simp
   with_reducible rfl
  rotate_left
  ·simp only [Act.put, List.setIfInBounds_toArray, List.set_cons_zero, List.set_cons_succ, i64_w, i32_w]
   rfl
  refine take_ (i := 2) (N := some 54) (v := ?_) (a' := ?_) #[false, true, true, false, false, false] rfl rfl (by kernel_rfl) (fun _ _ _ h => h) (Or.inl ⟨by rfl, ?_⟩) hHeld ?_ ?_
  rotate_left
  ·rintro w' ⟨s0, s1, s2, s3, s4, s5⟩
   go_simp
   with_reducible rfl
  rotate_left
  ·simp only [Act.put, List.setIfInBounds_toArray, List.set_cons_zero, List.set_cons_succ, i64_w, i32_w]
   rfl
  refine one_ (i := 0) (N := some 52) #[true, true, true, false, false, false] rfl rfl (by kernel_rfl) (by decide) (fun K hK => ?_)
  refine goes_ Try.func47 (by kernel_rfl) rfl #[] (by rfl) rfl rfl (by (try simp only [List.map_toArray, List.map_cons, List.map_nil]); first | done | rfl) ?_
  with_reducible refine (bind_controls.calls  t176 _ A117.1).mono ?_
  rintro e w180 ⟨v177, rfl, ho0, hb⟩
  refine ⟨_, rfl, ?_⟩
  have HO178 := aM (Kd.R_lower ho0 (bwZ (by apply_rules (transparency := .reducible) [HB.1, bwA, bwN, bwD, bwS, GE157.1, GE158.1, GE159.1])))
  replace BK157 := aM (bkB (g := gb157) (o := .cells #[.int .i64 a0_0, .int .i32 a0_1, .bool a0_2, .bool false, .bool a0_4, .string a0_5] 25 (0, 0)) (by apply_rules (transparency := .reducible) [BK157.1, bkN, bkD, bkA]) hb)
  replace BK158 := aM (bkB (g := gb158) (o := .cells #[.int .i64 0, .int .i64 0, .string (⟨#[]⟩ : ByteArray), .int .u8 0] 36 (0, 0)) (by apply_rules (transparency := .reducible) [BK158.1, bkN, bkD, bkA]) hb)
  replace BK159 := aM (bkB (g := gb159) (o := .cells #[.int .i64 40, .int .i64 1, .string (⟨#[]⟩ : ByteArray), .int .u8 0] 36 (0, 0)) (by apply_rules (transparency := .reducible) [BK159.1, bkN, bkD, bkA]) hb)
  replace HB := aM (bwP (by apply_rules (transparency := .reducible) [HB.1, bwA, bwN, bwD, bwS, GE157.1, GE158.1, GE159.1]) hb)
  (try clear hb)
  (try clear ho0)
  obtain ⟨Ao181, co181, eo181⟩ := Kd.R_slice HO178.1
  (first | subst eo181 | (injection eo181 with f1_ f2_ f3_; have f4_ := f1_.symm; have f5_ := f3_.symm; clear f1_ f2_ f3_; subst f4_; subst f5_))
  refine hK.out _ _ ⟨(bkC BK157.1 0).trans rfl, (bkC BK157.1 1).trans rfl, (bkC BK157.1 2).trans rfl, (bkC BK157.1 3).trans rfl, (bkC BK157.1 4).trans rfl, (bkC BK157.1 5).trans rfl⟩ (fun hHeld => ?_)
  clear hK K
  refine norm_ (a' := ?_) ?_ ?_
  rotate_left
  ·show Act.put _ (some 52) _ = _
   simp only [Act.put, List.setIfInBounds_toArray, List.set_cons_zero, List.set_cons_succ, i64_w, i32_w]
   rfl
  refine one_ (i := 3) (N := some 55) #[true, true, true, true, false, false] rfl rfl (by kernel_rfl) (by decide) (fun K hK => ?_)
  refine goes_ Try.func45 (by kernel_rfl) rfl #[.slice Ao181 t176.length co181, .int .i32 a0_1] (by rfl) rfl rfl (by (try simp only [List.map_toArray, List.map_cons, List.map_nil]); first | done | rfl) ?_
  with_reducible refine (bind_in.calls k _ _ t176 a0_1 t179 _ ?side1 ?side2 A118.1).mono ?_
  (case side1 => repeat (first | exact (Kd.R_reads' HO178.1).2.2 | (with_reducible refine Kd.C_alloc ?_ _) | (with_reducible refine Kd.C_drewN ?_ _) | (with_reducible refine Kd.C_drew ?_)))
  (case side2 => exact (Kd.R_reads' HO178.1).2.1)
  rintro e w182 ⟨rfl, hb⟩
  refine ⟨_, rfl, ?_⟩
  replace HO178 := aM (Kd.R_below (by (with_reducible repeat first | apply Kd.R_alloc | apply Kd.R_drewN | apply Kd.R_drew); exact HO178.1) hb)
  replace BK157 := aM (bkB (g := gb157) (o := .cells #[.int .i64 a0_0, .int .i32 a0_1, .bool a0_2, .bool false, .bool a0_4, .string a0_5] 25 (0, 0)) (by apply_rules (transparency := .reducible) [BK157.1, bkN, bkD, bkA]) hb)
  replace BK158 := aM (bkB (g := gb158) (o := .cells #[.int .i64 0, .int .i64 0, .string (⟨#[]⟩ : ByteArray), .int .u8 0] 36 (0, 0)) (by apply_rules (transparency := .reducible) [BK158.1, bkN, bkD, bkA]) hb)
  replace BK159 := aM (bkB (g := gb159) (o := .cells #[.int .i64 40, .int .i64 1, .string (⟨#[]⟩ : ByteArray), .int .u8 0] 36 (0, 0)) (by apply_rules (transparency := .reducible) [BK159.1, bkN, bkD, bkA]) hb)
  replace HB := aM (bwP (by apply_rules (transparency := .reducible) [HB.1, bwA, bwN, bwD, bwS, GE157.1, GE158.1, GE159.1]) hb)
  (try clear hb)
  refine hK.out _ _ ⟨(bkC BK157.1 0).trans rfl, (bkC BK157.1 1).trans rfl, (bkC BK157.1 2).trans rfl, (bkC BK157.1 3).trans rfl, (bkC BK157.1 4).trans rfl, (bkC BK157.1 5).trans rfl⟩ (fun hHeld => ?_)
  clear hK K
  refine norm_ (a' := ?_) ?_ ?_
  rotate_left
  ·show Act.put _ (some 55) _ = _
   simp only [Act.put, List.setIfInBounds_toArray, List.set_cons_zero, List.set_cons_succ, i64_w, i32_w]
   rfl
  refine pure_ (i := 4) (N := some 56) (v := ?_) (a' := ?_) #[true, true, true, true, true, false] rfl rfl (by kernel_rfl) (fun _ _ _ h => h) (Or.inl ⟨by rfl, ?_⟩) ?_ ?_
  rotate_left
  ·intro w'
   go_simp
   with_reducible rfl
  rotate_left
  ·simp only [Act.put, List.setIfInBounds_toArray, List.set_cons_zero, List.set_cons_succ, i64_w, i32_w]
   rfl
  refine one_ (i := 5) (N := none) #[true, true, true, true, true, true] rfl rfl (by kernel_rfl) (by decide) (fun K hK => ?_)
  have hs183 : w182.cell? ⟨gb159, 0, none⟩ = some (.int .i64 40) := (bkC BK159.1 0).trans rfl
  have hfs183 := bkF BK159.1 0
  have hns183_0 := NB157_159.1
  have hns183_1 := NB158_159.1
  have hms183_0 := NB159_157.1
  have hms183_1 := NB159_158.1
  refine skip_ (w1 := ?_) (by rfl) rfl ?_ ?_
  rotate_left
  ·go_simp
   rfl
  refine hK.out _ _ ⟨((cell_far (p := ⟨gb159, _, none⟩) NB157_159.1 _).trans (hHeld.1)), ((cell_far (p := ⟨gb159, _, none⟩) NB157_159.1 _).trans (hHeld.2.1)), ((cell_far (p := ⟨gb159, _, none⟩) NB157_159.1 _).trans (hHeld.2.2.1)), ((cell_far (p := ⟨gb159, _, none⟩) NB157_159.1 _).trans (hHeld.2.2.2.1)), ((cell_far (p := ⟨gb159, _, none⟩) NB157_159.1 _).trans (hHeld.2.2.2.2.1)), ((cell_far (p := ⟨gb159, _, none⟩) NB157_159.1 _).trans (hHeld.2.2.2.2.2))⟩ (fun hHeld => ?_)
  clear hK K
  refine done_ (by kernel_rfl) ?_
  obtain ⟨z184_0, z184_1, z184_2, z184_3, z184_4, z184_5, z184_6, z184_7⟩ := bx4 BK159.1
  obtain ⟨z185_0, z185_1, z185_2, z185_3, z185_4, z185_5, z185_6, z185_7⟩ := bx4 BK158.1
  try go_wp2
  refine bodyPost_ret (results_cell_row rfl _ _ gb158 36 #[.int .i64 t179, .int .i64 1, .string (⟨#[]⟩ : ByteArray), .int .u8 0] (0, 0) _ rfl (by (with_reducible repeat first | apply bkN | apply bkD | apply bkA); refine put4 (cs := #[.int .i64 0, .int .i64 0, .string (⟨#[]⟩ : ByteArray), .int .u8 0]) ?_ rfl; (with_reducible repeat first | apply bkN | apply bkD | apply bkA); refine bkR ?_ NB158_159.1 _; (with_reducible repeat first | apply bkN | apply bkD | apply bkA); exact BK158.1) Try.underlying36 rfl (by kernel_rfl)) rfl ?_
  exact ⟨rfl, by apply_rules (transparency := .reducible) [HB.1, bwA, bwN, bwD, bwS, GE157.1, GE158.1, GE159.1]⟩
 rw [if_neg c86] at H
 have c86b0 : (a0_0 == 2) = false := beq_eq_false_iff_ne.mpr c86
 have c86b1 : (a0_0 != 2) = true := bne_iff_ne.mpr c86
 by_cases c186 : a0_0 = 17
 ·rw [if_pos c186] at H
  have c186b0 : (a0_0 == 17) = true := beq_iff_eq.mpr c186
  have c186b1 : (a0_0 != 17) = false := bne_eq_false_iff_eq.mpr c186
  clear c186
  simp only [Option.some.injEq, Prod.mk.injEq] at H
  obtain ⟨rfl, rfl, rfl, rfl⟩ := H
  go_enter Try.func33, Try.ntmps33
  try go_wp2_with (first | ((with_reducible refine gate_dst (N := 1) rfl ?_); refine box_event ?hg (N := 1) ?hd (cs := #[.int .i64 a0_0, .int .i32 a0_1, .bool a0_2, .bool a0_3, .bool a0_4, .string a0_5]) (t := 25) ?hr ?_; (case hd => rfl); (case hg => rfl); (case hr => first | (go_simp; done) | (go_simp; rfl)); intro gb157 hg w187 hbox hb; have BK157 := aM (hbox); have GW157 := aM ((by rw [hg]; exact (bwZ (by apply_rules (transparency := .reducible) [HB.1, bwA, bwN, bwD])) : w.heap.size ≤ gb157)); have GE157 := aM ((by rw [hg]; exact (bwZ (by apply_rules (transparency := .reducible) [HB.1, bwA, bwN, bwD])) : w.heap.size ≤ gb157)); replace HB := aM (bwP (by apply_rules (transparency := .reducible) [HB.1, bwA, bwN, bwD]) hb); clear hb hbox hg) | ((with_reducible refine gate_dst (N := 2) rfl ?_); refine box_event ?hg (N := 2) ?hd (cs := #[.int .i64 0, .int .i64 0, .string (⟨#[]⟩ : ByteArray), .int .u8 0]) (t := 36) ?hr ?_; (case hd => rfl); (case hg => rfl); (case hr => first | (go_simp; done) | (go_simp; rfl)); intro gb158 hg w188 hbox hb; have BK158 := aM (hbox); have GW158 := aM ((by rw [hg]; exact (bwZ (by apply_rules (transparency := .reducible) [HB.1, bwA, bwN, bwD, bwS, GE157.1])) : w.heap.size ≤ gb158)); have GE158 := aM ((by rw [hg]; exact (bwZ (by apply_rules (transparency := .reducible) [HB.1, bwA, bwN, bwD, bwS, GE157.1])) : w.heap.size ≤ gb158)); replace HB := aM (bwP (by apply_rules (transparency := .reducible) [HB.1, bwA, bwN, bwD, bwS, GE157.1]) hb); have NB157_158 := aM ((by rw [hg]; exact Nat.ne_of_lt (bkL (g := gb157) (o := .cells #[.int .i64 a0_0, .int .i32 a0_1, .bool a0_2, .bool a0_3, .bool a0_4, .string a0_5] 25 (0, 0)) (by apply_rules (transparency := .reducible) [BK157.1, bkN, bkD, bkA])) : gb157 ≠ gb158)); have NB158_157 := aM ((by rw [hg]; exact Nat.ne_of_gt (bkL (g := gb157) (o := .cells #[.int .i64 a0_0, .int .i32 a0_1, .bool a0_2, .bool a0_3, .bool a0_4, .string a0_5] 25 (0, 0)) (by apply_rules (transparency := .reducible) [BK157.1, bkN, bkD, bkA])) : gb158 ≠ gb157)); replace BK157 := aM (bkB (g := gb157) (o := .cells #[.int .i64 a0_0, .int .i32 a0_1, .bool a0_2, .bool a0_3, .bool a0_4, .string a0_5] 25 (0, 0)) (by apply_rules (transparency := .reducible) [BK157.1, bkN, bkD, bkA]) hb); clear hb hbox hg) | ((with_reducible refine gate_dst (N := 3) rfl ?_); refine box_event ?hg (N := 3) ?hd (cs := #[.int .i64 0, .int .i64 0, .string (⟨#[]⟩ : ByteArray), .int .u8 0]) (t := 36) ?hr ?_; (case hd => rfl); (case hg => rfl); (case hr => first | (go_simp; done) | (go_simp; rfl)); intro gb159 hg w189 hbox hb; have BK159 := aM (hbox); have GW159 := aM ((by rw [hg]; exact (bwZ (by apply_rules (transparency := .reducible) [HB.1, bwA, bwN, bwD, bwS, GE157.1, GE158.1])) : w.heap.size ≤ gb159)); have GE159 := aM ((by rw [hg]; exact (bwZ (by apply_rules (transparency := .reducible) [HB.1, bwA, bwN, bwD, bwS, GE157.1, GE158.1])) : w.heap.size ≤ gb159)); replace HB := aM (bwP (by apply_rules (transparency := .reducible) [HB.1, bwA, bwN, bwD, bwS, GE157.1, GE158.1]) hb); have NB157_159 := aM ((by rw [hg]; exact Nat.ne_of_lt (bkL (g := gb157) (o := .cells #[.int .i64 a0_0, .int .i32 a0_1, .bool a0_2, .bool a0_3, .bool a0_4, .string a0_5] 25 (0, 0)) (by apply_rules (transparency := .reducible) [BK157.1, bkN, bkD, bkA])) : gb157 ≠ gb159)); have NB159_157 := aM ((by rw [hg]; exact Nat.ne_of_gt (bkL (g := gb157) (o := .cells #[.int .i64 a0_0, .int .i32 a0_1, .bool a0_2, .bool a0_3, .bool a0_4, .string a0_5] 25 (0, 0)) (by apply_rules (transparency := .reducible) [BK157.1, bkN, bkD, bkA])) : gb159 ≠ gb157)); replace BK157 := aM (bkB (g := gb157) (o := .cells #[.int .i64 a0_0, .int .i32 a0_1, .bool a0_2, .bool a0_3, .bool a0_4, .string a0_5] 25 (0, 0)) (by apply_rules (transparency := .reducible) [BK157.1, bkN, bkD, bkA]) hb); have NB158_159 := aM ((by rw [hg]; exact Nat.ne_of_lt (bkL (g := gb158) (o := .cells #[.int .i64 0, .int .i64 0, .string (⟨#[]⟩ : ByteArray), .int .u8 0] 36 (0, 0)) (by apply_rules (transparency := .reducible) [BK158.1, bkN, bkD, bkA])) : gb158 ≠ gb159)); have NB159_158 := aM ((by rw [hg]; exact Nat.ne_of_gt (bkL (g := gb158) (o := .cells #[.int .i64 0, .int .i64 0, .string (⟨#[]⟩ : ByteArray), .int .u8 0] 36 (0, 0)) (by apply_rules (transparency := .reducible) [BK158.1, bkN, bkD, bkA])) : gb159 ≠ gb158)); replace BK158 := aM (bkB (g := gb158) (o := .cells #[.int .i64 0, .int .i64 0, .string (⟨#[]⟩ : ByteArray), .int .u8 0] 36 (0, 0)) (by apply_rules (transparency := .reducible) [BK158.1, bkN, bkD, bkA]) hb); clear hb hbox hg; have hnb190 := NB159_157.1; have hnc190 := NB157_159.1; have hnb191 := NB159_158.1; have hnc191 := NB158_159.1; obtain ⟨z192_0, z192_1, z192_2, z192_3, z192_4, z192_5, z192_6, z192_7⟩ := bx4 BK159.1; have hnb193 := NB157_158.1; have hnc193 := NB158_157.1; obtain ⟨z194_0, z194_1, z194_2, z194_3, z194_4, z194_5, z194_6, z194_7, z194_8, z194_9, z194_10, z194_11⟩ := bx6 BK157.1))
  have n0_ : Aside0 (((((w189.setCell ⟨gb159, 0, none⟩ (.int .i64 40)).setCell ⟨gb159, 1, none⟩ (.int .i64 1)).setCell ⟨gb159, 2, none⟩ (.string (⟨#[]⟩ : ByteArray))).setCell ⟨gb159, 3, none⟩ (.int .u8 0)).heap[gb157]? = some (.cells #[.int .i64 a0_0, .int .i32 a0_1, .bool a0_2, .bool a0_3, .bool a0_4, .string a0_5] 25 (0, 0))) := ⟨by apply_rules (transparency := .reducible) [BK157.1, bkN, bkD, bkA, bkR, NB157_159.1]⟩
  have n1_ : Aside0 (((((w189.setCell ⟨gb159, 0, none⟩ (.int .i64 40)).setCell ⟨gb159, 1, none⟩ (.int .i64 1)).setCell ⟨gb159, 2, none⟩ (.string (⟨#[]⟩ : ByteArray))).setCell ⟨gb159, 3, none⟩ (.int .u8 0)).heap[gb158]? = some (.cells #[.int .i64 0, .int .i64 0, .string (⟨#[]⟩ : ByteArray), .int .u8 0] 36 (0, 0))) := ⟨by apply_rules (transparency := .reducible) [BK158.1, bkN, bkD, bkA, bkR, NB158_159.1]⟩
  have n2_ : Aside0 (((((w189.setCell ⟨gb159, 0, none⟩ (.int .i64 40)).setCell ⟨gb159, 1, none⟩ (.int .i64 1)).setCell ⟨gb159, 2, none⟩ (.string (⟨#[]⟩ : ByteArray))).setCell ⟨gb159, 3, none⟩ (.int .u8 0)).heap[gb159]? = some (.cells #[.int .i64 40, .int .i64 1, .string (⟨#[]⟩ : ByteArray), .int .u8 0] 36 (0, 0))) := ⟨by (with_reducible repeat first | apply bkN | apply bkD | apply bkA); refine put4 (cs := #[.int .i64 0, .int .i64 0, .string (⟨#[]⟩ : ByteArray), .int .u8 0]) ?_ rfl; (with_reducible repeat first | apply bkN | apply bkD | apply bkA); exact BK159.1⟩
  have n3_ : Aside0 (Below w.heap.size w ((((w189.setCell ⟨gb159, 0, none⟩ (.int .i64 40)).setCell ⟨gb159, 1, none⟩ (.int .i64 1)).setCell ⟨gb159, 2, none⟩ (.string (⟨#[]⟩ : ByteArray))).setCell ⟨gb159, 3, none⟩ (.int .u8 0))) := ⟨by apply_rules (transparency := .reducible) [HB.1, bwA, bwN, bwD, bwS, GE157.1, GE158.1, GE159.1]⟩
  (try clear BK157)
  (try clear BK158)
  (try clear BK159)
  (try clear HB)
  generalize ((((w189.setCell ⟨gb159, 0, none⟩ (.int .i64 40)).setCell ⟨gb159, 1, none⟩ (.int .i64 1)).setCell ⟨gb159, 2, none⟩ (.string (⟨#[]⟩ : ByteArray))).setCell ⟨gb159, 3, none⟩ (.int .u8 0)) = w195 at n0_ n1_ n2_ n3_ ⊢
  have BK157 := n0_
  have BK158 := n1_
  have BK159 := n2_
  have HB := n3_
  clear n0_ n1_ n2_ n3_
  replace BK157 := aM (bkD BK157.1)
  replace BK158 := aM (bkD BK158.1)
  replace BK159 := aM (bkD BK159.1)
  replace HB := aM (bwD HB.1)
  refine start_ (n := 6) (S := fun w' => w'.cell? ⟨gb157, 0, none⟩ = some (.int .i64 a0_0) ∧ w'.cell? ⟨gb157, 1, none⟩ = some (.int .i32 a0_1) ∧ w'.cell? ⟨gb157, 2, none⟩ = some (.bool a0_2) ∧ w'.cell? ⟨gb157, 3, none⟩ = some (.bool a0_3) ∧ w'.cell? ⟨gb157, 4, none⟩ = some (.bool a0_4) ∧ w'.cell? ⟨gb157, 5, none⟩ = some (.string a0_5)) (ds := []) #[false, false, false, false, false, false] (by kernel_rfl) rfl rfl ⟨(bkC BK157.1 0).trans rfl, (bkC BK157.1 1).trans rfl, (bkC BK157.1 2).trans rfl, (bkC BK157.1 3).trans rfl, (bkC BK157.1 4).trans rfl, (bkC BK157.1 5).trans rfl⟩ (fun hHeld => ?_)
  generalize w195.drew = w196 at BK157 BK158 BK159 HB hHeld ⊢
  refine pure_ (i := 0) (N := some 77) (v := ?_) (a' := ?_) #[true, false, false, false, false, false] rfl rfl (by kernel_rfl) (fun _ _ _ h => h) (Or.inl ⟨by rfl, ?_⟩) ?_ ?_
  rotate_left
  ·intro w'
   go_simp
   with_reducible rfl
  rotate_left
  ·simp only [Act.put, List.setIfInBounds_toArray, List.set_cons_zero, List.set_cons_succ, i64_w, i32_w]
   rfl
  refine pure_ (i := 2) (N := some 79) (v := ?_) (a' := ?_) #[true, false, true, false, false, false] rfl rfl (by kernel_rfl) (fun _ _ _ h => h) (Or.inl ⟨by rfl, ?_⟩) ?_ ?_
  rotate_left
  ·intro w'
   go_simp
   with_reducible rfl
  rotate_left
  ·simp only [Act.put, List.setIfInBounds_toArray, List.set_cons_zero, List.set_cons_succ, i64_w, i32_w]
   rfl
  refine take_ (i := 1) (N := some 78) (v := ?_) (a' := ?_) #[true, true, true, false, false, false] rfl rfl (by kernel_rfl) (fun _ _ _ h => h) (Or.inl ⟨by rfl, ?_⟩) hHeld ?_ ?_
  rotate_left
  ·rintro w' ⟨s0, s1, s2, s3, s4, s5⟩
   go_simp
   with_reducible rfl
  rotate_left
  ·simp only [Act.put, List.setIfInBounds_toArray, List.set_cons_zero, List.set_cons_succ, i64_w, i32_w]
   rfl
  refine one_ (i := 3) (N := none) #[true, true, true, true, false, false] rfl rfl (by kernel_rfl) (by decide) (fun K hK => ?_)
  have hs197 : w196.cell? ⟨gb159, 0, none⟩ = some (.int .i64 40) := (bkC BK159.1 0).trans rfl
  have hfs197 := bkF BK159.1 0
  have hns197_0 := NB157_159.1
  have hns197_1 := NB158_159.1
  have hms197_0 := NB159_157.1
  have hms197_1 := NB159_158.1
  refine skip_ (w1 := ?_) (by rfl) rfl ?_ ?_
  rotate_left
  ·go_simp
   rfl
  refine hK.out _ _ ⟨((cell_far (p := ⟨gb159, _, none⟩) NB157_159.1 _).trans (hHeld.1)), ((cell_far (p := ⟨gb159, _, none⟩) NB157_159.1 _).trans (hHeld.2.1)), ((cell_far (p := ⟨gb159, _, none⟩) NB157_159.1 _).trans (hHeld.2.2.1)), ((cell_far (p := ⟨gb159, _, none⟩) NB157_159.1 _).trans (hHeld.2.2.2.1)), ((cell_far (p := ⟨gb159, _, none⟩) NB157_159.1 _).trans (hHeld.2.2.2.2.1)), ((cell_far (p := ⟨gb159, _, none⟩) NB157_159.1 _).trans (hHeld.2.2.2.2.2))⟩ (fun hHeld => ?_)
  clear hK K
  refine pure_ (i := 4) (N := some 80) (v := ?_) (a' := ?_) #[true, true, true, true, true, false] rfl rfl (by kernel_rfl) (fun _ _ _ h => h) (Or.inl ⟨by rfl, ?_⟩) ?_ ?_
  rotate_left
  ·intro w'
   go_simp
   with_reducible rfl
  rotate_left
  ·simp only [Act.put, List.setIfInBounds_toArray, List.set_cons_zero, List.set_cons_succ, i64_w, i32_w]
   rfl
  refine one_ (i := 5) (N := none) #[true, true, true, true, true, true] rfl rfl (by kernel_rfl) (by decide) (fun K hK => ?_)
  have hs198 : w196.cell? ⟨gb159, 2, none⟩ = some (.string (⟨#[]⟩ : ByteArray)) := (bkC BK159.1 2).trans rfl
  have hfs198 := bkF BK159.1 2
  have hns198_0 := NB157_159.1
  have hns198_1 := NB158_159.1
  have hms198_0 := NB159_157.1
  have hms198_1 := NB159_158.1
  refine skip_ (w1 := ?_) (by rfl) rfl ?_ ?_
  rotate_left
  ·go_simp
   rfl
  refine hK.out _ _ ⟨((cell_far (p := ⟨gb159, _, none⟩) NB157_159.1 _).trans (hHeld.1)), ((cell_far (p := ⟨gb159, _, none⟩) NB157_159.1 _).trans (hHeld.2.1)), ((cell_far (p := ⟨gb159, _, none⟩) NB157_159.1 _).trans (hHeld.2.2.1)), ((cell_far (p := ⟨gb159, _, none⟩) NB157_159.1 _).trans (hHeld.2.2.2.1)), ((cell_far (p := ⟨gb159, _, none⟩) NB157_159.1 _).trans (hHeld.2.2.2.2.1)), ((cell_far (p := ⟨gb159, _, none⟩) NB157_159.1 _).trans (hHeld.2.2.2.2.2))⟩ (fun hHeld => ?_)
  clear hK K
  refine done_ (by kernel_rfl) ?_
  obtain ⟨z199_0, z199_1, z199_2, z199_3, z199_4, z199_5, z199_6, z199_7⟩ := bx4 BK159.1
  obtain ⟨z200_0, z200_1, z200_2, z200_3, z200_4, z200_5, z200_6, z200_7⟩ := bx4 BK158.1
  try go_wp2
  refine bodyPost_ret (results_cell_row rfl _ _ gb158 36 #[.int .i64 39, .int .i64 1, .string a0_5, .int .u8 0] (0, 0) _ rfl (by (with_reducible repeat first | apply bkN | apply bkD | apply bkA); refine put4 (cs := #[.int .i64 0, .int .i64 0, .string (⟨#[]⟩ : ByteArray), .int .u8 0]) ?_ rfl; (with_reducible repeat first | apply bkN | apply bkD | apply bkA); refine bkR ?_ NB158_159.1 _; (with_reducible repeat first | apply bkN | apply bkD | apply bkA); refine bkR ?_ NB158_159.1 _; (with_reducible repeat first | apply bkN | apply bkD | apply bkA); exact BK158.1) Try.underlying36 rfl (by kernel_rfl)) rfl ?_
  exact ⟨rfl, by apply_rules (transparency := .reducible) [HB.1, bwA, bwN, bwD, bwS, GE157.1, GE158.1, GE159.1]⟩
 rw [if_neg c186] at H
 have c186b0 : (a0_0 == 17) = false := beq_eq_false_iff_ne.mpr c186
 have c186b1 : (a0_0 != 17) = true := bne_iff_ne.mpr c186
 replace H := Option.bind_eq_some_iff.mp H
 obtain ⟨t180, A2010, H⟩ := H
 replace H : (some (t180, 1, (⟨#[]⟩ : ByteArray), 0)) = some (r1, r2, r3, r4) := H
 have A201 := aM A2010
 clear A2010
 simp only [Option.some.injEq, Prod.mk.injEq] at H
 obtain ⟨rfl, rfl, rfl, rfl⟩ := H
 go_enter Try.func33, Try.ntmps33
 go_wp2_with (first | ((with_reducible refine gate_dst (N := 1) rfl ?_); refine box_event ?hg (N := 1) ?hd (cs := #[.int .i64 a0_0, .int .i32 a0_1, .bool a0_2, .bool a0_3, .bool a0_4, .string a0_5]) (t := 25) ?hr ?_; (case hd => rfl); (case hg => rfl); (case hr => first | (go_simp; done) | (go_simp; rfl)); intro gb157 hg w202 hbox hb; have BK157 := aM (hbox); have GW157 := aM ((by rw [hg]; exact (bwZ (by apply_rules (transparency := .reducible) [HB.1, bwA, bwN, bwD])) : w.heap.size ≤ gb157)); have GE157 := aM ((by rw [hg]; exact (bwZ (by apply_rules (transparency := .reducible) [HB.1, bwA, bwN, bwD])) : w.heap.size ≤ gb157)); replace HB := aM (bwP (by apply_rules (transparency := .reducible) [HB.1, bwA, bwN, bwD]) hb); clear hb hbox hg) | ((with_reducible refine gate_dst (N := 2) rfl ?_); refine box_event ?hg (N := 2) ?hd (cs := #[.int .i64 0, .int .i64 0, .string (⟨#[]⟩ : ByteArray), .int .u8 0]) (t := 36) ?hr ?_; (case hd => rfl); (case hg => rfl); (case hr => first | (go_simp; done) | (go_simp; rfl)); intro gb158 hg w203 hbox hb; have BK158 := aM (hbox); have GW158 := aM ((by rw [hg]; exact (bwZ (by apply_rules (transparency := .reducible) [HB.1, bwA, bwN, bwD, bwS, GE157.1])) : w.heap.size ≤ gb158)); have GE158 := aM ((by rw [hg]; exact (bwZ (by apply_rules (transparency := .reducible) [HB.1, bwA, bwN, bwD, bwS, GE157.1])) : w.heap.size ≤ gb158)); replace HB := aM (bwP (by apply_rules (transparency := .reducible) [HB.1, bwA, bwN, bwD, bwS, GE157.1]) hb); have NB157_158 := aM ((by rw [hg]; exact Nat.ne_of_lt (bkL (g := gb157) (o := .cells #[.int .i64 a0_0, .int .i32 a0_1, .bool a0_2, .bool a0_3, .bool a0_4, .string a0_5] 25 (0, 0)) (by apply_rules (transparency := .reducible) [BK157.1, bkN, bkD, bkA])) : gb157 ≠ gb158)); have NB158_157 := aM ((by rw [hg]; exact Nat.ne_of_gt (bkL (g := gb157) (o := .cells #[.int .i64 a0_0, .int .i32 a0_1, .bool a0_2, .bool a0_3, .bool a0_4, .string a0_5] 25 (0, 0)) (by apply_rules (transparency := .reducible) [BK157.1, bkN, bkD, bkA])) : gb158 ≠ gb157)); replace BK157 := aM (bkB (g := gb157) (o := .cells #[.int .i64 a0_0, .int .i32 a0_1, .bool a0_2, .bool a0_3, .bool a0_4, .string a0_5] 25 (0, 0)) (by apply_rules (transparency := .reducible) [BK157.1, bkN, bkD, bkA]) hb); clear hb hbox hg) | ((with_reducible refine gate_dst (N := 3) rfl ?_); refine box_event ?hg (N := 3) ?hd (cs := #[.int .i64 0, .int .i64 0, .string (⟨#[]⟩ : ByteArray), .int .u8 0]) (t := 36) ?hr ?_; (case hd => rfl); (case hg => rfl); (case hr => first | (go_simp; done) | (go_simp; rfl)); intro gb159 hg w204 hbox hb; have BK159 := aM (hbox); have GW159 := aM ((by rw [hg]; exact (bwZ (by apply_rules (transparency := .reducible) [HB.1, bwA, bwN, bwD, bwS, GE157.1, GE158.1])) : w.heap.size ≤ gb159)); have GE159 := aM ((by rw [hg]; exact (bwZ (by apply_rules (transparency := .reducible) [HB.1, bwA, bwN, bwD, bwS, GE157.1, GE158.1])) : w.heap.size ≤ gb159)); replace HB := aM (bwP (by apply_rules (transparency := .reducible) [HB.1, bwA, bwN, bwD, bwS, GE157.1, GE158.1]) hb); have NB157_159 := aM ((by rw [hg]; exact Nat.ne_of_lt (bkL (g := gb157) (o := .cells #[.int .i64 a0_0, .int .i32 a0_1, .bool a0_2, .bool a0_3, .bool a0_4, .string a0_5] 25 (0, 0)) (by apply_rules (transparency := .reducible) [BK157.1, bkN, bkD, bkA])) : gb157 ≠ gb159)); have NB159_157 := aM ((by rw [hg]; exact Nat.ne_of_gt (bkL (g := gb157) (o := .cells #[.int .i64 a0_0, .int .i32 a0_1, .bool a0_2, .bool a0_3, .bool a0_4, .string a0_5] 25 (0, 0)) (by apply_rules (transparency := .reducible) [BK157.1, bkN, bkD, bkA])) : gb159 ≠ gb157)); replace BK157 := aM (bkB (g := gb157) (o := .cells #[.int .i64 a0_0, .int .i32 a0_1, .bool a0_2, .bool a0_3, .bool a0_4, .string a0_5] 25 (0, 0)) (by apply_rules (transparency := .reducible) [BK157.1, bkN, bkD, bkA]) hb); have NB158_159 := aM ((by rw [hg]; exact Nat.ne_of_lt (bkL (g := gb158) (o := .cells #[.int .i64 0, .int .i64 0, .string (⟨#[]⟩ : ByteArray), .int .u8 0] 36 (0, 0)) (by apply_rules (transparency := .reducible) [BK158.1, bkN, bkD, bkA])) : gb158 ≠ gb159)); have NB159_158 := aM ((by rw [hg]; exact Nat.ne_of_gt (bkL (g := gb158) (o := .cells #[.int .i64 0, .int .i64 0, .string (⟨#[]⟩ : ByteArray), .int .u8 0] 36 (0, 0)) (by apply_rules (transparency := .reducible) [BK158.1, bkN, bkD, bkA])) : gb159 ≠ gb158)); replace BK158 := aM (bkB (g := gb158) (o := .cells #[.int .i64 0, .int .i64 0, .string (⟨#[]⟩ : ByteArray), .int .u8 0] 36 (0, 0)) (by apply_rules (transparency := .reducible) [BK158.1, bkN, bkD, bkA]) hb); clear hb hbox hg; have hnb205 := NB159_157.1; have hnc205 := NB157_159.1; have hnb206 := NB159_158.1; have hnc206 := NB158_159.1; obtain ⟨z207_0, z207_1, z207_2, z207_3, z207_4, z207_5, z207_6, z207_7⟩ := bx4 BK159.1; have hnb208 := NB157_158.1; have hnc208 := NB158_157.1; obtain ⟨z209_0, z209_1, z209_2, z209_3, z209_4, z209_5, z209_6, z209_7, z209_8, z209_9, z209_10, z209_11⟩ := bx6 BK157.1) | ((with_reducible refine gate_callee (f := 48) rfl ?_); refine goesL_ (some 8) rfl rfl Try.func48 (by kernel_rfl) rfl #[.agg #[.int .i64 a0_0, .int .i32 a0_1, .bool a0_2, .bool a0_3, .bool a0_4, .string a0_5]] rfl (by (try simp only [List.map_toArray, List.map_cons, List.map_nil]); first | done | rfl) ?_; (with_reducible refine (bind_named.calls a0_0 a0_1 a0_2 a0_3 a0_4 a0_5 t180 _ A201.1).mono ?_); rintro e w210 ⟨rfl, hb⟩; refine ⟨_, rfl, ?_⟩; replace BK157 := aM (bkB (g := gb157) (o := .cells #[.int .i64 a0_0, .int .i32 a0_1, .bool a0_2, .bool a0_3, .bool a0_4, .string a0_5] 25 (0, 0)) (by apply_rules (transparency := .reducible) [BK157.1, bkN, bkD, bkA, bkR, NB157_159.1]) hb); replace BK158 := aM (bkB (g := gb158) (o := .cells #[.int .i64 0, .int .i64 0, .string (⟨#[]⟩ : ByteArray), .int .u8 0] 36 (0, 0)) (by apply_rules (transparency := .reducible) [BK158.1, bkN, bkD, bkA, bkR, NB158_159.1]) hb); replace BK159 := aM (bkB (g := gb159) (o := .cells #[.int .i64 40, .int .i64 1, .string (⟨#[]⟩ : ByteArray), .int .u8 0] 36 (0, 0)) (by (with_reducible repeat first | apply bkN | apply bkD | apply bkA); refine put4 (cs := #[.int .i64 0, .int .i64 0, .string (⟨#[]⟩ : ByteArray), .int .u8 0]) ?_ rfl; (with_reducible repeat first | apply bkN | apply bkD | apply bkA); exact BK159.1) hb); replace HB := aM (bwP (by apply_rules (transparency := .reducible) [HB.1, bwA, bwN, bwD, bwS, GE157.1, GE158.1, GE159.1]) hb); (try clear hb); (try clear hb2); (try clear hk); (try clear hi); obtain ⟨z211_0, z211_1, z211_2, z211_3, z211_4, z211_5, z211_6, z211_7⟩ := bx4 BK159.1; obtain ⟨z212_0, z212_1, z212_2, z212_3, z212_4, z212_5, z212_6, z212_7⟩ := bx4 BK158.1))
 refine bodyPost_ret (results_cell_row rfl _ _ gb158 36 #[.int .i64 t180, .int .i64 1, .string (⟨#[]⟩ : ByteArray), .int .u8 0] (0, 0) _ rfl (by (with_reducible repeat first | apply bkN | apply bkD | apply bkA); refine put4 (cs := #[.int .i64 0, .int .i64 0, .string (⟨#[]⟩ : ByteArray), .int .u8 0]) ?_ rfl; (with_reducible repeat first | apply bkN | apply bkD | apply bkA); refine bkR ?_ NB158_159.1 _; (with_reducible repeat first | apply bkN | apply bkD | apply bkA); exact BK158.1) Try.underlying36 rfl (by kernel_rfl)) rfl ?_
 exact ⟨rfl, by apply_rules (transparency := .reducible) [HB.1, bwA, bwN, bwD, bwS, GE157.1, GE158.1, GE159.1]⟩

end Go.Proofs.Ytgkaiagoogjibaa.PBind
