-- written by pp.py of this session's wip: the kit's print, turned in a few places, over this claim's program
import Derived.Test.YtgkaiagoogjibaaPBindx0
namespace Go.Proofs.Ytgkaiagoogjibaa.PBind
open Go.RowKit Go.Proofs.YtgkaiagoogjibaaW.PrintWords Go.Proofs.YtgkaiagoogjibaaW.PrintLast Go.Proofs.YtgkaiagoogjibaaW.PrintMore
open Go.Proofs.YtgkaiagoogjibaaW.PrintWords renaming blk_drewN → bkN, blk_drew → bkD, blk_alloc → bkA, below_alloc → bwA, pw_below_drewN → bwN, below_drew1 → bwD, below_size → bwZ, below_step → bwP
open Go.Proofs.YtgkaiagoogjibaaW.PrintWords.Aside0 renaming mk → aM
attribute [local go_sem] max2_int min2_int max_two min_two max_three min_three max_four min_four   -- for this text's walks alone
set_option linter.unusedVariables false
set_option linter.unusedSimpArgs false

/-! ### bind_prefixOf: function 32 -/
mutual
def bind_prefixOf.j0 : Nat → Bool → Int → Int → Bool → Bool → Bool → ByteArray → Option (Int)
  | 0, _, _, _, _, _, _, _ => none
  | k + 1, x3, x106000, x106001, x106002, x106003, x106004, x106005 => if x3 = true then (some 113) else (if x106000 = 2 then (if x106003 = true then (bind_prefixOf.j1 k false x106000 x106001 x106002 x106003 x106004 x106005) else (bind_prefixOf.j1 k (x106001 == 88) x106000 x106001 x106002 x106003 x106004 x106005)) else (bind_prefixOf.j1 k false x106000 x106001 x106002 x106003 x106004 x106005))
def bind_prefixOf.j1 : Nat → Bool → Int → Int → Bool → Bool → Bool → ByteArray → Option (Int)
  | 0, _, _, _, _, _, _, _ => none
  | k + 1, x17, x106000, x106001, x106002, x106003, x106004, x106005 => if x17 = true then (some 120) else (if x106000 = 1 then (if x106003 = true then (if x106002 = true then (bind_prefixOf.j2 k false x106000 x106001 x106002 x106003 x106004 x106005) else (bind_prefixOf.j2 k (x106001 == 109) x106000 x106001 x106002 x106003 x106004 x106005)) else (bind_prefixOf.j2 k false x106000 x106001 x106002 x106003 x106004 x106005)) else (bind_prefixOf.j2 k false x106000 x106001 x106002 x106003 x106004 x106005))
def bind_prefixOf.j2 : Nat → Bool → Int → Int → Bool → Bool → Bool → ByteArray → Option (Int)
  | 0, _, _, _, _, _, _, _ => none
  | k + 1, x31, x106000, x106001, x106002, x106003, x106004, x106005 => if x31 = true then (some 109) else (if x106000 = 1 then (if x106003 = true then (if x106002 = true then (some 0) else (if x106001 = 39 then (some 39) else (some 0))) else (some 0)) else (some 0))
end
def bind_prefixOf.f (k : Nat) (a0_0 : Int) (a0_1 : Int) (a0_2 : Bool) (a0_3 : Bool) (a0_4 : Bool) (a0_5 : ByteArray) : Option (Int) := if a0_0 = 2 then (if a0_3 = true then (bind_prefixOf.j0 k false a0_0 a0_1 a0_2 a0_3 a0_4 a0_5) else (bind_prefixOf.j0 k (a0_1 == 81) a0_0 a0_1 a0_2 a0_3 a0_4 a0_5)) else (bind_prefixOf.j0 k false a0_0 a0_1 a0_2 a0_3 a0_4 a0_5)
theorem bind_prefixOf.mono_l : ∀ k, (∀ y0 y1 y2 y3 y4 y5 y6, LeO (bind_prefixOf.j0 k y0 y1 y2 y3 y4 y5 y6) (bind_prefixOf.j0 (k + 1) y0 y1 y2 y3 y4 y5 y6)) ∧ (∀ y0 y1 y2 y3 y4 y5 y6, LeO (bind_prefixOf.j1 k y0 y1 y2 y3 y4 y5 y6) (bind_prefixOf.j1 (k + 1) y0 y1 y2 y3 y4 y5 y6)) ∧ (∀ y0 y1 y2 y3 y4 y5 y6, LeO (bind_prefixOf.j2 k y0 y1 y2 y3 y4 y5 y6) (bind_prefixOf.j2 (k + 1) y0 y1 y2 y3 y4 y5 y6))
  | 0 => ⟨fun _ _ _ _ _ _ _ r h => by simp [bind_prefixOf.j0] at h, fun _ _ _ _ _ _ _ r h => by simp [bind_prefixOf.j1] at h, fun _ _ _ _ _ _ _ r h => by simp [bind_prefixOf.j2] at h⟩
  | k + 1 => by
    obtain ⟨ih0, ih1, ih2⟩ := bind_prefixOf.mono_l k
    refine ⟨?_, ?_, ?_⟩
    · intro y0 y1 y2 y3 y4 y5 y6
      unfold bind_prefixOf.j0
      repeat' first
      | (with_reducible exact ih0 _ _ _ _ _ _ _)
      | (with_reducible exact ih1 _ _ _ _ _ _ _)
      | (with_reducible exact ih2 _ _ _ _ _ _ _)
      | (with_reducible exact LeO.refl _)
      | (with_reducible exact LeO.none _)
      | (with_reducible refine LeO.ite ?_ ?_)
      | (with_reducible refine LeO.bind ?_ (fun _ => ?_))
      | exact ih0 _ _ _ _ _ _ _
      | exact ih1 _ _ _ _ _ _ _
      | exact ih2 _ _ _ _ _ _ _
      | exact LeO.none _
      | refine LeO.ite ?_ ?_
      | refine LeO.bind ?_ (fun _ => ?_)
    · intro y0 y1 y2 y3 y4 y5 y6
      unfold bind_prefixOf.j1
      repeat' first
      | (with_reducible exact ih0 _ _ _ _ _ _ _)
      | (with_reducible exact ih1 _ _ _ _ _ _ _)
      | (with_reducible exact ih2 _ _ _ _ _ _ _)
      | (with_reducible exact LeO.refl _)
      | (with_reducible exact LeO.none _)
      | (with_reducible refine LeO.ite ?_ ?_)
      | (with_reducible refine LeO.bind ?_ (fun _ => ?_))
      | exact ih0 _ _ _ _ _ _ _
      | exact ih1 _ _ _ _ _ _ _
      | exact ih2 _ _ _ _ _ _ _
      | exact LeO.none _
      | refine LeO.ite ?_ ?_
      | refine LeO.bind ?_ (fun _ => ?_)
    · intro y0 y1 y2 y3 y4 y5 y6
      unfold bind_prefixOf.j2
      repeat' first
      | (with_reducible exact ih0 _ _ _ _ _ _ _)
      | (with_reducible exact ih1 _ _ _ _ _ _ _)
      | (with_reducible exact ih2 _ _ _ _ _ _ _)
      | (with_reducible exact LeO.refl _)
      | (with_reducible exact LeO.none _)
      | (with_reducible refine LeO.ite ?_ ?_)
      | (with_reducible refine LeO.bind ?_ (fun _ => ?_))
      | exact ih0 _ _ _ _ _ _ _
      | exact ih1 _ _ _ _ _ _ _
      | exact ih2 _ _ _ _ _ _ _
      | exact LeO.none _
      | refine LeO.ite ?_ ?_
      | refine LeO.bind ?_ (fun _ => ?_)
theorem bind_prefixOf.mono : ∀ a0 a1 a2 a3 a4 a5 k, LeO (bind_prefixOf.f k a0 a1 a2 a3 a4 a5) (bind_prefixOf.f (k + 1) a0 a1 a2 a3 a4 a5) := by
 intro a0 a1 a2 a3 a4 a5 k
 obtain ⟨ih0, ih1, ih2⟩ := bind_prefixOf.mono_l k
 unfold bind_prefixOf.f
 repeat' first
   | (with_reducible exact ih0 _ _ _ _ _ _ _)
   | (with_reducible exact ih1 _ _ _ _ _ _ _)
   | (with_reducible exact ih2 _ _ _ _ _ _ _)
   | (with_reducible exact LeO.refl _)
   | (with_reducible exact LeO.none _)
   | (with_reducible refine LeO.ite ?_ ?_)
   | (with_reducible refine LeO.bind ?_ (fun _ => ?_))
   | exact ih0 _ _ _ _ _ _ _
   | exact ih1 _ _ _ _ _ _ _
   | exact ih2 _ _ _ _ _ _ _
   | exact LeO.none _
   | refine LeO.ite ?_ ?_
   | refine LeO.bind ?_ (fun _ => ?_)
set_option maxHeartbeats 8000000 in
set_option maxRecDepth 100000 in
theorem bind_prefixOf.calls (k : Nat) (a0_0 : Int) (a0_1 : Int) (a0_2 : Bool) (a0_3 : Bool) (a0_4 : Bool) (a0_5 : ByteArray) (r : Int) (w : World) (h : bind_prefixOf.f k a0_0 a0_1 a0_2 a0_3 a0_4 a0_5 = some r) :
    Calls Try.prog 32 #[.agg #[.int .i64 a0_0, .int .i32 a0_1, .bool a0_2, .bool a0_3, .bool a0_4, .string a0_5]] w fun e w' => e = .returned (.int .u8 r) ∧ Below w.heap.size w w' := by
 have hu25 := Try.underlying25
 have HB := aM (Below.refl w.heap.size w)
 have H : (if a0_0 = 2 then (if a0_3 = true then (bind_prefixOf.j0 k false a0_0 a0_1 a0_2 a0_3 a0_4 a0_5) else (bind_prefixOf.j0 k (a0_1 == 81) a0_0 a0_1 a0_2 a0_3 a0_4 a0_5)) else (bind_prefixOf.j0 k false a0_0 a0_1 a0_2 a0_3 a0_4 a0_5)) = some r := h
 clear h
 have HC2 := aM H
 clear H
 go_enter Try.func32, Try.ntmps32
 go_upto_region 1 with (first | ((with_reducible refine gate_dst (N := 1) rfl ?_); refine box_event ?hg (N := 1) ?hd (cs := #[.int .i64 a0_0, .int .i32 a0_1, .bool a0_2, .bool a0_3, .bool a0_4, .string a0_5]) (t := 25) ?hr ?_; (case hd => rfl); (case hg => rfl); (case hr => first | (go_simp; done) | (go_simp; rfl)); intro gb105 hg w3 hbox hb; have BK105 := aM (hbox); have GW105 := aM ((by rw [hg]; exact (bwZ (by apply_rules (transparency := .reducible) [HB.1, bwA, bwN, bwD])) : w.heap.size ≤ gb105)); have GE105 := aM ((by rw [hg]; exact (bwZ (by apply_rules (transparency := .reducible) [HB.1, bwA, bwN, bwD])) : w.heap.size ≤ gb105)); replace HB := aM (bwP (by apply_rules (transparency := .reducible) [HB.1, bwA, bwN, bwD]) hb); clear hb hbox hg))
 (try simp only [Act.put, List.setIfInBounds_toArray, List.set_cons_zero, List.set_cons_succ])
 go_cut [3] (fun v3 wc => ∃ (kq : Nat) (x3_1 : Bool), v3 = .bool x3_1 ∧ Aside0 (bind_prefixOf.j0 kq x3_1 a0_0 a0_1 a0_2 a0_3 a0_4 a0_5 = some r) ∧ Aside0 (kq ≤ k) ∧ Aside0 (wc.heap[gb105]? = some (.cells #[.int .i64 a0_0, .int .i32 a0_1, .bool a0_2, .bool a0_3, .bool a0_4, .string a0_5] 25 (0, 0))) ∧ Aside0 (Below w.heap.size w wc))
 case first =>
  have H := HC2.1
  clear HC2
  by_cases c4 : a0_0 = 2
  ·rw [if_pos c4] at H
   have c4b0 : (a0_0 == 2) = true := beq_iff_eq.mpr c4
   have c4b1 : (a0_0 != 2) = false := bne_eq_false_iff_eq.mpr c4
   clear c4
   (first | rw [c4b0] | (simp only [i64_w, i32_w]; rw [c4b0]) | skip)
   by_cases c5 : a0_3 = true
   ·subst c5
    replace H : (bind_prefixOf.j0 k false a0_0 a0_1 a0_2 true a0_4 a0_5) = some r := by rw [if_pos rfl] at H; exact H
    have H' := aM H
    clear H
    obtain ⟨z6_0, z6_1, z6_2, z6_3, z6_4, z6_5, z6_6, z6_7, z6_8, z6_9, z6_10, z6_11⟩ := bx6 BK105.1
    go_wp2
    go_meet
    case rel => exact ⟨_, (false), rfl, H', ⟨by omega⟩, ⟨by apply_rules (transparency := .reducible) [BK105.1, bkN, bkD, bkA]⟩, ⟨by apply_rules (transparency := .reducible) [HB.1, bwA, bwN, bwD, bwS, GE105.1]⟩⟩
   replace c5 := Bool.eq_false_iff.mpr c5
   subst c5
   replace H : (bind_prefixOf.j0 k (a0_1 == 81) a0_0 a0_1 a0_2 false a0_4 a0_5) = some r := by rw [if_neg (show ¬ (false = true) by decide)] at H; exact H
   have H' := aM H
   clear H
   obtain ⟨z7_0, z7_1, z7_2, z7_3, z7_4, z7_5, z7_6, z7_7, z7_8, z7_9, z7_10, z7_11⟩ := bx6 BK105.1
   go_wp2
   go_meet
   case rel => exact ⟨_, ((a0_1 == 81)), rfl, H', ⟨by omega⟩, ⟨by apply_rules (transparency := .reducible) [BK105.1, bkN, bkD, bkA]⟩, ⟨by apply_rules (transparency := .reducible) [HB.1, bwA, bwN, bwD, bwS, GE105.1]⟩⟩
  rw [if_neg c4] at H
  have c4b0 : (a0_0 == 2) = false := beq_eq_false_iff_ne.mpr c4
  have c4b1 : (a0_0 != 2) = true := bne_iff_ne.mpr c4
  (first | rw [c4b0] | (simp only [i64_w, i32_w]; rw [c4b0]) | skip)
  have H' := aM H
  clear H
  obtain ⟨z8_0, z8_1, z8_2, z8_3, z8_4, z8_5, z8_6, z8_7, z8_8, z8_9, z8_10, z8_11⟩ := bx6 BK105.1
  go_wp2
  go_meet
  case rel => exact ⟨_, (false), rfl, H', ⟨by omega⟩, ⟨by apply_rules (transparency := .reducible) [BK105.1, bkN, bkD, bkA]⟩, ⟨by apply_rules (transparency := .reducible) [HB.1, bwA, bwN, bwD, bwS, GE105.1]⟩⟩
 clear HC2
 obtain ⟨kq, x3_1, rfl, HA, HJ1, BK105, HB⟩ := hcut
 obtain _ | kj1 := kq
 ·exact absurd HA.1 (by simp [bind_prefixOf.j0])
 have H := HA.1
 clear HA
 simp only [bind_prefixOf.j0] at H
 by_cases c9 : x3_1 = true
 ·subst c9
  replace H : (some 113) = some r := by rw [if_pos rfl] at H; exact H
  obtain rfl := Option.some.inj H
  go_wp2
  go_ret
  exact ⟨rfl, by apply_rules (transparency := .reducible) [HB.1, bwA, bwN, bwD, bwS, GE105.1]⟩
 replace c9 := Bool.eq_false_iff.mpr c9
 subst c9
 replace H : (if a0_0 = 2 then (if a0_3 = true then (bind_prefixOf.j1 kj1 false a0_0 a0_1 a0_2 a0_3 a0_4 a0_5) else (bind_prefixOf.j1 kj1 (a0_1 == 88) a0_0 a0_1 a0_2 a0_3 a0_4 a0_5)) else (bind_prefixOf.j1 kj1 false a0_0 a0_1 a0_2 a0_3 a0_4 a0_5)) = some r := by rw [if_neg (show ¬ (false = true) by decide)] at H; exact H
 have HC10 := aM H
 clear H
 go_upto_region 3 with (fail)
 go_cut [17] (fun v17 wc => ∃ (kq : Nat) (x17_9 : Bool), v17 = .bool x17_9 ∧ Aside0 (bind_prefixOf.j1 kq x17_9 a0_0 a0_1 a0_2 a0_3 a0_4 a0_5 = some r) ∧ Aside0 (kq ≤ kj1) ∧ Aside0 (wc.heap[gb105]? = some (.cells #[.int .i64 a0_0, .int .i32 a0_1, .bool a0_2, .bool a0_3, .bool a0_4, .string a0_5] 25 (0, 0))) ∧ Aside0 (Below w.heap.size w wc))
 case first =>
  have H := HC10.1
  clear HC10
  by_cases c11 : a0_0 = 2
  ·rw [if_pos c11] at H
   have c11b0 : (a0_0 == 2) = true := beq_iff_eq.mpr c11
   have c11b1 : (a0_0 != 2) = false := bne_eq_false_iff_eq.mpr c11
   clear c11
   (first | rw [c11b0] | (simp only [i64_w, i32_w]; rw [c11b0]) | skip)
   by_cases c12 : a0_3 = true
   ·subst c12
    replace H : (bind_prefixOf.j1 kj1 false a0_0 a0_1 a0_2 true a0_4 a0_5) = some r := by rw [if_pos rfl] at H; exact H
    have H' := aM H
    clear H
    obtain ⟨z13_0, z13_1, z13_2, z13_3, z13_4, z13_5, z13_6, z13_7, z13_8, z13_9, z13_10, z13_11⟩ := bx6 BK105.1
    go_wp2
    go_meet
    case rel => exact ⟨_, (false), rfl, H', ⟨by have := HJ1.1; first | omega | exact Nat.le_refl _⟩, ⟨by apply_rules (transparency := .reducible) [BK105.1, bkN, bkD, bkA]⟩, ⟨by apply_rules (transparency := .reducible) [HB.1, bwA, bwN, bwD, bwS, GE105.1]⟩⟩
   replace c12 := Bool.eq_false_iff.mpr c12
   subst c12
   replace H : (bind_prefixOf.j1 kj1 (a0_1 == 88) a0_0 a0_1 a0_2 false a0_4 a0_5) = some r := by rw [if_neg (show ¬ (false = true) by decide)] at H; exact H
   have H' := aM H
   clear H
   obtain ⟨z14_0, z14_1, z14_2, z14_3, z14_4, z14_5, z14_6, z14_7, z14_8, z14_9, z14_10, z14_11⟩ := bx6 BK105.1
   go_wp2
   go_meet
   case rel => exact ⟨_, ((a0_1 == 88)), rfl, H', ⟨by have := HJ1.1; first | omega | exact Nat.le_refl _⟩, ⟨by apply_rules (transparency := .reducible) [BK105.1, bkN, bkD, bkA]⟩, ⟨by apply_rules (transparency := .reducible) [HB.1, bwA, bwN, bwD, bwS, GE105.1]⟩⟩
  rw [if_neg c11] at H
  have c11b0 : (a0_0 == 2) = false := beq_eq_false_iff_ne.mpr c11
  have c11b1 : (a0_0 != 2) = true := bne_iff_ne.mpr c11
  (first | rw [c11b0] | (simp only [i64_w, i32_w]; rw [c11b0]) | skip)
  have H' := aM H
  clear H
  obtain ⟨z15_0, z15_1, z15_2, z15_3, z15_4, z15_5, z15_6, z15_7, z15_8, z15_9, z15_10, z15_11⟩ := bx6 BK105.1
  go_wp2
  go_meet
  case rel => exact ⟨_, (false), rfl, H', ⟨by have := HJ1.1; first | omega | exact Nat.le_refl _⟩, ⟨by apply_rules (transparency := .reducible) [BK105.1, bkN, bkD, bkA]⟩, ⟨by apply_rules (transparency := .reducible) [HB.1, bwA, bwN, bwD, bwS, GE105.1]⟩⟩
 clear HC10
 try clear c9
 obtain ⟨kq, x17_9, rfl, HA, HJ9, BK105, HB⟩ := hcut
 obtain _ | kj9 := kq
 ·exact absurd HA.1 (by simp [bind_prefixOf.j1])
 have H := HA.1
 clear HA
 simp only [bind_prefixOf.j1] at H
 by_cases c16 : x17_9 = true
 ·subst c16
  replace H : (some 120) = some r := by rw [if_pos rfl] at H; exact H
  obtain rfl := Option.some.inj H
  go_wp2
  go_ret
  exact ⟨rfl, by apply_rules (transparency := .reducible) [HB.1, bwA, bwN, bwD, bwS, GE105.1]⟩
 replace c16 := Bool.eq_false_iff.mpr c16
 subst c16
 replace H : (if a0_0 = 1 then (if a0_3 = true then (if a0_2 = true then (bind_prefixOf.j2 kj9 false a0_0 a0_1 a0_2 a0_3 a0_4 a0_5) else (bind_prefixOf.j2 kj9 (a0_1 == 109) a0_0 a0_1 a0_2 a0_3 a0_4 a0_5)) else (bind_prefixOf.j2 kj9 false a0_0 a0_1 a0_2 a0_3 a0_4 a0_5)) else (bind_prefixOf.j2 kj9 false a0_0 a0_1 a0_2 a0_3 a0_4 a0_5)) = some r := by rw [if_neg (show ¬ (false = true) by decide)] at H; exact H
 have HC17 := aM H
 clear H
 go_upto_region 5 with (fail)
 go_cut [31] (fun v31 wc => ∃ (kq : Nat) (x31_16 : Bool), v31 = .bool x31_16 ∧ Aside0 (bind_prefixOf.j2 kq x31_16 a0_0 a0_1 a0_2 a0_3 a0_4 a0_5 = some r) ∧ Aside0 (kq ≤ kj9) ∧ Aside0 (wc.heap[gb105]? = some (.cells #[.int .i64 a0_0, .int .i32 a0_1, .bool a0_2, .bool a0_3, .bool a0_4, .string a0_5] 25 (0, 0))) ∧ Aside0 (Below w.heap.size w wc))
 case first =>
  have H := HC17.1
  clear HC17
  by_cases c18 : a0_0 = 1
  ·rw [if_pos c18] at H
   have c18b0 : (a0_0 == 1) = true := beq_iff_eq.mpr c18
   have c18b1 : (a0_0 != 1) = false := bne_eq_false_iff_eq.mpr c18
   clear c18
   (first | rw [c18b0] | (simp only [i64_w, i32_w]; rw [c18b0]) | skip)
   by_cases c19 : a0_3 = true
   ·subst c19
    replace H : (if a0_2 = true then (bind_prefixOf.j2 kj9 false a0_0 a0_1 a0_2 true a0_4 a0_5) else (bind_prefixOf.j2 kj9 (a0_1 == 109) a0_0 a0_1 a0_2 true a0_4 a0_5)) = some r := by rw [if_pos rfl] at H; exact H
    by_cases c20 : a0_2 = true
    ·subst c20
     replace H : (bind_prefixOf.j2 kj9 false a0_0 a0_1 true true a0_4 a0_5) = some r := by rw [if_pos rfl] at H; exact H
     have H' := aM H
     clear H
     obtain ⟨z21_0, z21_1, z21_2, z21_3, z21_4, z21_5, z21_6, z21_7, z21_8, z21_9, z21_10, z21_11⟩ := bx6 BK105.1
     go_wp2
     go_meet
     case rel => exact ⟨_, (false), rfl, H', ⟨by have := HJ1.1; have := HJ9.1; first | omega | exact Nat.le_refl _⟩, ⟨by apply_rules (transparency := .reducible) [BK105.1, bkN, bkD, bkA]⟩, ⟨by apply_rules (transparency := .reducible) [HB.1, bwA, bwN, bwD, bwS, GE105.1]⟩⟩
    replace c20 := Bool.eq_false_iff.mpr c20
    subst c20
    replace H : (bind_prefixOf.j2 kj9 (a0_1 == 109) a0_0 a0_1 false true a0_4 a0_5) = some r := by rw [if_neg (show ¬ (false = true) by decide)] at H; exact H
    have H' := aM H
    clear H
    obtain ⟨z22_0, z22_1, z22_2, z22_3, z22_4, z22_5, z22_6, z22_7, z22_8, z22_9, z22_10, z22_11⟩ := bx6 BK105.1
    go_wp2
    go_meet
    case rel => exact ⟨_, ((a0_1 == 109)), rfl, H', ⟨by have := HJ1.1; have := HJ9.1; first | omega | exact Nat.le_refl _⟩, ⟨by apply_rules (transparency := .reducible) [BK105.1, bkN, bkD, bkA]⟩, ⟨by apply_rules (transparency := .reducible) [HB.1, bwA, bwN, bwD, bwS, GE105.1]⟩⟩
   replace c19 := Bool.eq_false_iff.mpr c19
   subst c19
   replace H : (bind_prefixOf.j2 kj9 false a0_0 a0_1 a0_2 false a0_4 a0_5) = some r := by rw [if_neg (show ¬ (false = true) by decide)] at H; exact H
   have H' := aM H
   clear H
   obtain ⟨z23_0, z23_1, z23_2, z23_3, z23_4, z23_5, z23_6, z23_7, z23_8, z23_9, z23_10, z23_11⟩ := bx6 BK105.1
   go_wp2
   go_meet
   case rel => exact ⟨_, (false), rfl, H', ⟨by have := HJ1.1; have := HJ9.1; first | omega | exact Nat.le_refl _⟩, ⟨by apply_rules (transparency := .reducible) [BK105.1, bkN, bkD, bkA]⟩, ⟨by apply_rules (transparency := .reducible) [HB.1, bwA, bwN, bwD, bwS, GE105.1]⟩⟩
  rw [if_neg c18] at H
  have c18b0 : (a0_0 == 1) = false := beq_eq_false_iff_ne.mpr c18
  have c18b1 : (a0_0 != 1) = true := bne_iff_ne.mpr c18
  (first | rw [c18b0] | (simp only [i64_w, i32_w]; rw [c18b0]) | skip)
  have H' := aM H
  clear H
  obtain ⟨z24_0, z24_1, z24_2, z24_3, z24_4, z24_5, z24_6, z24_7, z24_8, z24_9, z24_10, z24_11⟩ := bx6 BK105.1
  go_wp2
  go_meet
  case rel => exact ⟨_, (false), rfl, H', ⟨by have := HJ1.1; have := HJ9.1; first | omega | exact Nat.le_refl _⟩, ⟨by apply_rules (transparency := .reducible) [BK105.1, bkN, bkD, bkA]⟩, ⟨by apply_rules (transparency := .reducible) [HB.1, bwA, bwN, bwD, bwS, GE105.1]⟩⟩
 clear HC17
 try clear c9
 try clear c16
 obtain ⟨kq, x31_16, rfl, HA, HJ16, BK105, HB⟩ := hcut
 obtain _ | kj16 := kq
 ·exact absurd HA.1 (by simp [bind_prefixOf.j2])
 have H := HA.1
 clear HA
 simp only [bind_prefixOf.j2] at H
 by_cases c25 : x31_16 = true
 ·subst c25
  replace H : (some 109) = some r := by rw [if_pos rfl] at H; exact H
  obtain rfl := Option.some.inj H
  go_wp2
  go_ret
  exact ⟨rfl, by apply_rules (transparency := .reducible) [HB.1, bwA, bwN, bwD, bwS, GE105.1]⟩
 replace c25 := Bool.eq_false_iff.mpr c25
 subst c25
 replace H : (if a0_0 = 1 then (if a0_3 = true then (if a0_2 = true then (some 0) else (if a0_1 = 39 then (some 39) else (some 0))) else (some 0)) else (some 0)) = some r := by rw [if_neg (show ¬ (false = true) by decide)] at H; exact H
 by_cases c26 : a0_0 = 1
 ·rw [if_pos c26] at H
  have c26b0 : (a0_0 == 1) = true := beq_iff_eq.mpr c26
  have c26b1 : (a0_0 != 1) = false := bne_eq_false_iff_eq.mpr c26
  clear c26
  by_cases c27 : a0_3 = true
  ·subst c27
   replace H : (if a0_2 = true then (some 0) else (if a0_1 = 39 then (some 39) else (some 0))) = some r := by rw [if_pos rfl] at H; exact H
   by_cases c28 : a0_2 = true
   ·subst c28
    replace H : (some 0) = some r := by rw [if_pos rfl] at H; exact H
    obtain rfl := Option.some.inj H
    obtain ⟨z29_0, z29_1, z29_2, z29_3, z29_4, z29_5, z29_6, z29_7, z29_8, z29_9, z29_10, z29_11⟩ := bx6 BK105.1
    go_wp2
    go_ret
    exact ⟨rfl, by apply_rules (transparency := .reducible) [HB.1, bwA, bwN, bwD, bwS, GE105.1]⟩
   replace c28 := Bool.eq_false_iff.mpr c28
   subst c28
   replace H : (if a0_1 = 39 then (some 39) else (some 0)) = some r := by rw [if_neg (show ¬ (false = true) by decide)] at H; exact H
   by_cases c30 : a0_1 = 39
   ·rw [if_pos c30] at H
    have c30b0 : (a0_1 == 39) = true := beq_iff_eq.mpr c30
    have c30b1 : (a0_1 != 39) = false := bne_eq_false_iff_eq.mpr c30
    clear c30
    obtain rfl := Option.some.inj H
    obtain ⟨z31_0, z31_1, z31_2, z31_3, z31_4, z31_5, z31_6, z31_7, z31_8, z31_9, z31_10, z31_11⟩ := bx6 BK105.1
    go_wp2
    go_ret
    exact ⟨rfl, by apply_rules (transparency := .reducible) [HB.1, bwA, bwN, bwD, bwS, GE105.1]⟩
   rw [if_neg c30] at H
   have c30b0 : (a0_1 == 39) = false := beq_eq_false_iff_ne.mpr c30
   have c30b1 : (a0_1 != 39) = true := bne_iff_ne.mpr c30
   obtain rfl := Option.some.inj H
   obtain ⟨z32_0, z32_1, z32_2, z32_3, z32_4, z32_5, z32_6, z32_7, z32_8, z32_9, z32_10, z32_11⟩ := bx6 BK105.1
   go_wp2
   go_ret
   exact ⟨rfl, by apply_rules (transparency := .reducible) [HB.1, bwA, bwN, bwD, bwS, GE105.1]⟩
  replace c27 := Bool.eq_false_iff.mpr c27
  subst c27
  replace H : (some 0) = some r := by rw [if_neg (show ¬ (false = true) by decide)] at H; exact H
  obtain rfl := Option.some.inj H
  obtain ⟨z33_0, z33_1, z33_2, z33_3, z33_4, z33_5, z33_6, z33_7, z33_8, z33_9, z33_10, z33_11⟩ := bx6 BK105.1
  go_wp2
  go_ret
  exact ⟨rfl, by apply_rules (transparency := .reducible) [HB.1, bwA, bwN, bwD, bwS, GE105.1]⟩
 rw [if_neg c26] at H
 have c26b0 : (a0_0 == 1) = false := beq_eq_false_iff_ne.mpr c26
 have c26b1 : (a0_0 != 1) = true := bne_iff_ne.mpr c26
 obtain rfl := Option.some.inj H
 obtain ⟨z34_0, z34_1, z34_2, z34_3, z34_4, z34_5, z34_6, z34_7, z34_8, z34_9, z34_10, z34_11⟩ := bx6 BK105.1
 go_wp2
 go_ret
 exact ⟨rfl, by apply_rules (transparency := .reducible) [HB.1, bwA, bwN, bwD, bwS, GE105.1]⟩

/-! ### bind_inserts: function 43 -/
def bind_inserts.f (a0 : ByteArray) : Option (Int × Int × ByteArray × Int) := if a0.toList = ([] : List UInt8) then (some (40, 1, (⟨#[]⟩ : ByteArray), 0)) else (some (1, 1, a0, 0))
set_option maxHeartbeats 8000000 in
set_option maxRecDepth 100000 in
theorem bind_inserts.calls (a0 : ByteArray) (r1 : Int) (r2 : Int) (r3 : ByteArray) (r4 : Int) (w : World) (h : bind_inserts.f a0 = some (r1, r2, r3, r4)) :
    Calls Try.prog 43 #[.string a0] w fun e w' => e = .returned (.agg #[.int .i64 r1, .int .i64 r2, .string r3, .int .u8 r4]) ∧ Below w.heap.size w w' := by
 have hu36 := Try.underlying36
 have HB := aM (Below.refl w.heap.size w)
 have H : (if a0.toList = ([] : List UInt8) then (some (40, 1, (⟨#[]⟩ : ByteArray), 0)) else (some (1, 1, a0, 0))) = some (r1, r2, r3, r4) := h
 clear h
 by_cases c2 : a0.toList = ([] : List UInt8)
 ·rw [if_pos c2] at H
  have c2b0 : (a0.toList == ([] : List UInt8)) = true := beq_iff_eq.mpr c2
  have c2b1 : (a0.toList != ([] : List UInt8)) = false := bne_eq_false_iff_eq.mpr c2
  clear c2
  simp only [Option.some.injEq, Prod.mk.injEq] at H
  obtain ⟨rfl, rfl, rfl, rfl⟩ := H
  go_enter Try.func43, Try.ntmps43
  go_wp2_with (first | ((with_reducible refine gate_dst (N := 2) rfl ?_); refine box_event ?hg (N := 2) ?hd (cs := #[.int .i64 0, .int .i64 0, .string (⟨#[]⟩ : ByteArray), .int .u8 0]) (t := 36) ?hr ?_; (case hd => rfl); (case hg => rfl); (case hr => first | (go_simp; done) | (go_simp; rfl)); intro gb106 hg w3 hbox hb; have BK106 := aM (hbox); have GW106 := aM ((by rw [hg]; exact (bwZ (by apply_rules (transparency := .reducible) [HB.1, bwA, bwN, bwD])) : w.heap.size ≤ gb106)); have GE106 := aM ((by rw [hg]; exact (bwZ (by apply_rules (transparency := .reducible) [HB.1, bwA, bwN, bwD])) : w.heap.size ≤ gb106)); replace HB := aM (bwP (by apply_rules (transparency := .reducible) [HB.1, bwA, bwN, bwD]) hb); clear hb hbox hg; obtain ⟨z4_0, z4_1, z4_2, z4_3, z4_4, z4_5, z4_6, z4_7⟩ := bx4 BK106.1))
  refine bodyPost_ret (results_cell_row rfl _ _ gb106 36 #[.int .i64 40, .int .i64 1, .string (⟨#[]⟩ : ByteArray), .int .u8 0] (0, 0) _ rfl (by (with_reducible repeat first | apply bkN | apply bkD | apply bkA); refine put4 (cs := #[.int .i64 0, .int .i64 0, .string (⟨#[]⟩ : ByteArray), .int .u8 0]) ?_ rfl; (with_reducible repeat first | apply bkN | apply bkD | apply bkA); exact BK106.1) Try.underlying36 rfl (by kernel_rfl)) rfl ?_
  exact ⟨rfl, by apply_rules (transparency := .reducible) [HB.1, bwA, bwN, bwD, bwS, GE106.1]⟩
 rw [if_neg c2] at H
 have c2b0 : (a0.toList == ([] : List UInt8)) = false := beq_eq_false_iff_ne.mpr c2
 have c2b1 : (a0.toList != ([] : List UInt8)) = true := bne_iff_ne.mpr c2
 simp only [Option.some.injEq, Prod.mk.injEq] at H
 obtain ⟨rfl, rfl, rfl, rfl⟩ := H
 go_enter Try.func43, Try.ntmps43
 go_wp2_with (first | ((with_reducible refine gate_dst (N := 2) rfl ?_); refine box_event ?hg (N := 2) ?hd (cs := #[.int .i64 0, .int .i64 0, .string (⟨#[]⟩ : ByteArray), .int .u8 0]) (t := 36) ?hr ?_; (case hd => rfl); (case hg => rfl); (case hr => first | (go_simp; done) | (go_simp; rfl)); intro gb106 hg w5 hbox hb; have BK106 := aM (hbox); have GW106 := aM ((by rw [hg]; exact (bwZ (by apply_rules (transparency := .reducible) [HB.1, bwA, bwN, bwD])) : w.heap.size ≤ gb106)); have GE106 := aM ((by rw [hg]; exact (bwZ (by apply_rules (transparency := .reducible) [HB.1, bwA, bwN, bwD])) : w.heap.size ≤ gb106)); replace HB := aM (bwP (by apply_rules (transparency := .reducible) [HB.1, bwA, bwN, bwD]) hb); clear hb hbox hg; obtain ⟨z6_0, z6_1, z6_2, z6_3, z6_4, z6_5, z6_6, z6_7⟩ := bx4 BK106.1))
 refine bodyPost_ret (results_cell_row rfl _ _ gb106 36 #[.int .i64 1, .int .i64 1, .string a0, .int .u8 0] (0, 0) _ rfl (by (with_reducible repeat first | apply bkN | apply bkD | apply bkA); refine put4 (cs := #[.int .i64 0, .int .i64 0, .string (⟨#[]⟩ : ByteArray), .int .u8 0]) ?_ rfl; (with_reducible repeat first | apply bkN | apply bkD | apply bkA); exact BK106.1) Try.underlying36 rfl (by kernel_rfl)) rfl ?_
 exact ⟨rfl, by apply_rules (transparency := .reducible) [HB.1, bwA, bwN, bwD, bwS, GE106.1]⟩

end Go.Proofs.Ytgkaiagoogjibaa.PBind
