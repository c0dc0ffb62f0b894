-- written by pp.py of this session's wip: the kit's print, turned in a few places, over this claim's program
import Derived.Test.YtgkaiagoogjibaaPBindx0
import Derived.Test.YtgkaiagoogjibaaPBindx11
import Derived.Test.YtgkaiagoogjibaaPBindx12
namespace Go.Proofs.Ytgkaiagoogjibaa.PBind
open Go.RowKit Go.Proofs.YtgkaiagoogjibaaW.PrintWords Go.Proofs.YtgkaiagoogjibaaW.PrintLast Go.Proofs.YtgkaiagoogjibaaW.PrintMore
open Go.Proofs.YtgkaiagoogjibaaW.PrintWords renaming blk_drewN → bkN, blk_drew → bkD, blk_alloc → bkA, below_alloc → bwA, pw_below_drewN → bwN, below_drew1 → bwD, below_size → bwZ, below_step → bwP, blk_below → bkB
open Go.Proofs.YtgkaiagoogjibaaW.PrintWords.Aside0 renaming mk → aM
attribute [local go_sem] max2_int min2_int max_two min_two max_three min_three max_four min_four   -- for this text's walks alone
set_option linter.unusedVariables false
set_option linter.unusedSimpArgs false

/-! ### bodkinref19_named: function 54 -/
mutual
def bodkinref19_named.l0 : Nat → Int → Bool → List Int → List Int → List Int → Int → Option (Int)
  | 0, _, _, _, _, _, _ => none
  | k + 1, x0, x1, x5, x6, x7, x8 => if x8 < (x5.length : Int) then (if 0 ≤ x8 then (if (rd x5 x8) = x0 then (bodkinref19_named.j1 k x0 x1 x5 x6 x7 x8 x1) else (bodkinref19_named.j1 k x0 x1 x5 x6 x7 x8 false)) else (none)) else (some 40)
def bodkinref19_named.j1 : Nat → Int → Bool → List Int → List Int → List Int → Int → Bool → Option (Int)
  | 0, _, _, _, _, _, _, _ => none
  | k + 1, x0, x1, x5, x6, x7, x8, x26 => if x26 = true then (if 0 ≤ x8 then (if x8 < (x7.length : Int) then (some (rd x7 x8)) else (none)) else (none)) else (if 0 ≤ x8 then (if x8 < (x5.length : Int) then (if (rd x5 x8) = x0 then (if x8 < (x6.length : Int) then (some (rd x6 x8)) else (none)) else (bodkinref19_named.l0 k x0 x1 x5 x6 x7 (wrap64 (x8 + 1)))) else (none)) else (none))
end
def bodkinref19_named.f (k : Nat) (a0 : Int) (a1 : Bool) : Option (Int) := bodkinref19_named.l0 k a0 a1 (([8, 7, 5, 6, 9, 10, 12, 13, 14] : List Int)) (([4, 5, 10, 11, 8, 9, 14, 34, 35] : List Int)) (([6, 7, 34, 35, 12, 13, 16, 40, 40] : List Int)) 0
theorem bodkinref19_named.mono_l : ∀ k, (∀ y0 y1 y2 y3 y4 y5, LeO (bodkinref19_named.l0 k y0 y1 y2 y3 y4 y5) (bodkinref19_named.l0 (k + 1) y0 y1 y2 y3 y4 y5)) ∧ (∀ y0 y1 y2 y3 y4 y5 y6, LeO (bodkinref19_named.j1 k y0 y1 y2 y3 y4 y5 y6) (bodkinref19_named.j1 (k + 1) y0 y1 y2 y3 y4 y5 y6))
  | 0 => ⟨fun _ _ _ _ _ _ r h => by simp [bodkinref19_named.l0] at h, fun _ _ _ _ _ _ _ r h => by simp [bodkinref19_named.j1] at h⟩
  | k + 1 => by
    obtain ⟨ih0, ih1⟩ := bodkinref19_named.mono_l k
    refine ⟨?_, ?_⟩
    · intro y0 y1 y2 y3 y4 y5
      unfold bodkinref19_named.l0
      repeat' first
      | (with_reducible exact ih0 _ _ _ _ _ _)
      | (with_reducible exact ih1 _ _ _ _ _ _ _)
      | (with_reducible exact LeO.refl _)
      | (with_reducible exact LeO.none _)
      | (with_reducible refine LeO.ite ?_ ?_)
      | (with_reducible refine LeO.bind ?_ (fun _ => ?_))
      | exact ih0 _ _ _ _ _ _
      | exact ih1 _ _ _ _ _ _ _
      | exact LeO.none _
      | refine LeO.ite ?_ ?_
      | refine LeO.bind ?_ (fun _ => ?_)
    · intro y0 y1 y2 y3 y4 y5 y6
      unfold bodkinref19_named.j1
      repeat' first
      | (with_reducible exact ih0 _ _ _ _ _ _)
      | (with_reducible exact ih1 _ _ _ _ _ _ _)
      | (with_reducible exact LeO.refl _)
      | (with_reducible exact LeO.none _)
      | (with_reducible refine LeO.ite ?_ ?_)
      | (with_reducible refine LeO.bind ?_ (fun _ => ?_))
      | exact ih0 _ _ _ _ _ _
      | exact ih1 _ _ _ _ _ _ _
      | exact LeO.none _
      | refine LeO.ite ?_ ?_
      | refine LeO.bind ?_ (fun _ => ?_)
theorem bodkinref19_named.mono : ∀ a0 a1 k, LeO (bodkinref19_named.f k a0 a1) (bodkinref19_named.f (k + 1) a0 a1) := by
 intro a0 a1 k
 obtain ⟨ih0, ih1⟩ := bodkinref19_named.mono_l k
 unfold bodkinref19_named.f
 repeat' first
   | (with_reducible exact ih0 _ _ _ _ _ _)
   | (with_reducible exact ih1 _ _ _ _ _ _ _)
   | (with_reducible exact LeO.refl _)
   | (with_reducible exact LeO.none _)
   | (with_reducible refine LeO.ite ?_ ?_)
   | (with_reducible refine LeO.bind ?_ (fun _ => ?_))
   | exact ih0 _ _ _ _ _ _
   | exact ih1 _ _ _ _ _ _ _
   | exact LeO.none _
   | refine LeO.ite ?_ ?_
   | refine LeO.bind ?_ (fun _ => ?_)
set_option maxHeartbeats 8000000 in
set_option maxRecDepth 100000 in
theorem bodkinref19_named.calls (k : Nat) (a0 : Int) (a1 : Bool) (r : Int) (w : World) (h : bodkinref19_named.f k a0 a1 = some r) :
    Calls Try.prog 54 #[.int .i64 a0, .bool a1] w fun e w' => e = .returned (.int .i64 r) ∧ Below w.heap.size w w' := by
 have HB := aM (Below.refl w.heap.size w)
 have H : (bodkinref19_named.l0 k a0 a1 (([8, 7, 5, 6, 9, 10, 12, 13, 14] : List Int)) (([4, 5, 10, 11, 8, 9, 14, 34, 35] : List Int)) (([6, 7, 34, 35, 12, 13, 16, 40, 40] : List Int)) 0) = some r := h
 clear h
 obtain ⟨y321, hy321⟩ : ∃ y_ : List Int, y_ = (([8, 7, 5, 6, 9, 10, 12, 13, 14] : List Int)) := ⟨_, rfl⟩
 replace H : (bodkinref19_named.l0 k a0 a1 y321 (([4, 5, 10, 11, 8, 9, 14, 34, 35] : List Int)) (([6, 7, 34, 35, 12, 13, 16, 40, 40] : List Int)) 0) = some r := by first | (rw [hy321]; with_reducible exact H) | (have H2_ := (Option.bind_some _ _).symm.trans H; rw [hy321]; with_reducible exact H2_) | (have H2_ := (Option.bind_some _ _).symm.trans H; with_reducible exact H2_) | with_reducible exact H | (rw [hy321]; exact H) | exact H
 have Ny321 := aM hy321
 clear hy321
 obtain ⟨y324, hy324⟩ : ∃ y_ : List Int, y_ = (([4, 5, 10, 11, 8, 9, 14, 34, 35] : List Int)) := ⟨_, rfl⟩
 replace H : (bodkinref19_named.l0 k a0 a1 y321 y324 (([6, 7, 34, 35, 12, 13, 16, 40, 40] : List Int)) 0) = some r := by first | (rw [hy324]; with_reducible exact H) | (have H2_ := (Option.bind_some _ _).symm.trans H; rw [hy324]; with_reducible exact H2_) | (have H2_ := (Option.bind_some _ _).symm.trans H; with_reducible exact H2_) | with_reducible exact H | (rw [hy324]; exact H) | exact H
 have Ny324 := aM hy324
 clear hy324
 obtain ⟨y327, hy327⟩ : ∃ y_ : List Int, y_ = (([6, 7, 34, 35, 12, 13, 16, 40, 40] : List Int)) := ⟨_, rfl⟩
 replace H : (bodkinref19_named.l0 k a0 a1 y321 y324 y327 0) = some r := by first | (rw [hy327]; with_reducible exact H) | (have H2_ := (Option.bind_some _ _).symm.trans H; rw [hy327]; with_reducible exact H2_) | (have H2_ := (Option.bind_some _ _).symm.trans H; with_reducible exact H2_) | with_reducible exact H | (rw [hy327]; exact H) | exact H
 have Ny327 := aM hy327
 clear hy327
 have H' := aM H
 clear H
 go_enter Try.func54, Try.ntmps54
 go_wp2_with (first | ((with_reducible refine gate_dst (N := 9) rfl ?_); refine Kd.R_lit (Kd.int .i64) _ 23 ?hg (N := 9) ?hd (xs := ([8, 7, 5, 6, 9, 10, 12, 13, 14] : List Int)) (inner := [.int .i64 8, .int .i64 7, .int .i64 5, .int .i64 6, .int .i64 9, .int .i64 10, .int .i64 12, .int .i64 13, .int .i64 14]) (ok := fun _ => True) (okp := fun _ => True) ?hr ?hp (fun _ hk => hk) trivial (Below.refl _ _) (Nat.le_refl _) (by simp) ?_; (case hd => rfl); (case hg => rfl); (case hr => first | (go_simp; done) | (go_simp; rfl)); (case hp => exact (Reps.one (show Kd.M (Kd.int .i64) _ _ _ 8 [.int .i64 8] from rfl) (Reps.one (show Kd.M (Kd.int .i64) _ _ _ 7 [.int .i64 7] from rfl) (Reps.one (show Kd.M (Kd.int .i64) _ _ _ 5 [.int .i64 5] from rfl) (Reps.one (show Kd.M (Kd.int .i64) _ _ _ 6 [.int .i64 6] from rfl) (Reps.one (show Kd.M (Kd.int .i64) _ _ _ 9 [.int .i64 9] from rfl) (Reps.one (show Kd.M (Kd.int .i64) _ _ _ 10 [.int .i64 10] from rfl) (Reps.one (show Kd.M (Kd.int .i64) _ _ _ 12 [.int .i64 12] from rfl) (Reps.one (show Kd.M (Kd.int .i64) _ _ _ 13 [.int .i64 13] from rfl) (Reps.one (show Kd.M (Kd.int .i64) _ _ _ 14 [.int .i64 14] from rfl) (Reps.none _ _))))))))))); intro v322 w3 ho4 hb hg_ hnew_; clear hg_ hnew_; (first | rw [← Ny321.1] at ho4 | (simp only [Int.reduceToNat] at ho4; rw [← Ny321.1] at ho4)); have HO323 := aM (Kd.R_lower ho4 (bwZ (by apply_rules (transparency := .reducible) [HB.1, bwA, bwN, bwD]))); replace HB := aM (bwP (by apply_rules (transparency := .reducible) [HB.1, bwA, bwN, bwD]) hb); clear hb ho4) | ((with_reducible refine gate_dst (N := 10) rfl ?_); refine Kd.R_lit (Kd.int .i64) _ 34 ?hg (N := 10) ?hd (xs := ([4, 5, 10, 11, 8, 9, 14, 34, 35] : List Int)) (inner := [.int .i64 4, .int .i64 5, .int .i64 10, .int .i64 11, .int .i64 8, .int .i64 9, .int .i64 14, .int .i64 34, .int .i64 35]) (ok := fun _ => True) (okp := fun _ => True) ?hr ?hp (fun _ hk => hk) trivial (Below.refl _ _) (Nat.le_refl _) (by simp) ?_; (case hd => rfl); (case hg => rfl); (case hr => first | (go_simp; done) | (go_simp; rfl)); (case hp => exact (Reps.one (show Kd.M (Kd.int .i64) _ _ _ 4 [.int .i64 4] from rfl) (Reps.one (show Kd.M (Kd.int .i64) _ _ _ 5 [.int .i64 5] from rfl) (Reps.one (show Kd.M (Kd.int .i64) _ _ _ 10 [.int .i64 10] from rfl) (Reps.one (show Kd.M (Kd.int .i64) _ _ _ 11 [.int .i64 11] from rfl) (Reps.one (show Kd.M (Kd.int .i64) _ _ _ 8 [.int .i64 8] from rfl) (Reps.one (show Kd.M (Kd.int .i64) _ _ _ 9 [.int .i64 9] from rfl) (Reps.one (show Kd.M (Kd.int .i64) _ _ _ 14 [.int .i64 14] from rfl) (Reps.one (show Kd.M (Kd.int .i64) _ _ _ 34 [.int .i64 34] from rfl) (Reps.one (show Kd.M (Kd.int .i64) _ _ _ 35 [.int .i64 35] from rfl) (Reps.none _ _))))))))))); intro v325 w5 ho6 hb hg_ hnew_; clear hg_ hnew_; (first | rw [← Ny324.1] at ho6 | (simp only [Int.reduceToNat] at ho6; rw [← Ny324.1] at ho6)); replace HO323 := aM (Kd.R_below (by (with_reducible repeat first | apply Kd.R_alloc | apply Kd.R_drewN | apply Kd.R_drew); exact HO323.1) hb); have HO326 := aM (Kd.R_lower ho6 (bwZ (by apply_rules (transparency := .reducible) [HB.1, bwA, bwN, bwD]))); replace HB := aM (bwP (by apply_rules (transparency := .reducible) [HB.1, bwA, bwN, bwD]) hb); clear hb ho6) | ((with_reducible refine gate_dst (N := 11) rfl ?_); refine Kd.R_lit (Kd.int .i64) _ 34 ?hg (N := 11) ?hd (xs := ([6, 7, 34, 35, 12, 13, 16, 40, 40] : List Int)) (inner := [.int .i64 6, .int .i64 7, .int .i64 34, .int .i64 35, .int .i64 12, .int .i64 13, .int .i64 16, .int .i64 40, .int .i64 40]) (ok := fun _ => True) (okp := fun _ => True) ?hr ?hp (fun _ hk => hk) trivial (Below.refl _ _) (Nat.le_refl _) (by simp) ?_; (case hd => rfl); (case hg => rfl); (case hr => first | (go_simp; done) | (go_simp; rfl)); (case hp => exact (Reps.one (show Kd.M (Kd.int .i64) _ _ _ 6 [.int .i64 6] from rfl) (Reps.one (show Kd.M (Kd.int .i64) _ _ _ 7 [.int .i64 7] from rfl) (Reps.one (show Kd.M (Kd.int .i64) _ _ _ 34 [.int .i64 34] from rfl) (Reps.one (show Kd.M (Kd.int .i64) _ _ _ 35 [.int .i64 35] from rfl) (Reps.one (show Kd.M (Kd.int .i64) _ _ _ 12 [.int .i64 12] from rfl) (Reps.one (show Kd.M (Kd.int .i64) _ _ _ 13 [.int .i64 13] from rfl) (Reps.one (show Kd.M (Kd.int .i64) _ _ _ 16 [.int .i64 16] from rfl) (Reps.one (show Kd.M (Kd.int .i64) _ _ _ 40 [.int .i64 40] from rfl) (Reps.one (show Kd.M (Kd.int .i64) _ _ _ 40 [.int .i64 40] from rfl) (Reps.none _ _))))))))))); intro v328 w7 ho8 hb hg_ hnew_; clear hg_ hnew_; (first | rw [← Ny327.1] at ho8 | (simp only [Int.reduceToNat] at ho8; rw [← Ny327.1] at ho8)); replace HO323 := aM (Kd.R_below (by (with_reducible repeat first | apply Kd.R_alloc | apply Kd.R_drewN | apply Kd.R_drew); exact HO323.1) hb); have HO329 := aM (Kd.R_lower (Kd.R_new' ho8 (Kd.R_lt (by (with_reducible repeat first | apply Kd.R_alloc | apply Kd.R_drewN | apply Kd.R_drew); exact HO326.1))) (bwZ (by apply_rules (transparency := .reducible) [HB.1, bwA, bwN, bwD]))); replace HO326 := aM (Kd.R_elder' (by (with_reducible repeat first | apply Kd.R_alloc | apply Kd.R_drewN | apply Kd.R_drew); exact HO326.1) (Kd.R_base ho8) hb); replace HB := aM (bwP (by apply_rules (transparency := .reducible) [HB.1, bwA, bwN, bwD]) hb); clear hb ho8))
 go_loopg [8] k (fun kq v8 w' => ∃ (x8_1 : Int), v8 = .int .i64 x8_1 ∧ Aside0 (bodkinref19_named.l0 kq a0 a1 y321 y324 y327 x8_1 = some r) ∧ Aside0 (kq ≤ k) ∧ Aside0 (Kd.R (Kd.int .i64) 23 w' w.heap.size (fun _ => True) v322 y321) ∧ Aside0 (Kd.R (Kd.int .i64) 34 w' w.heap.size (fun k_ => some k_ ≠ (v328 : Value).ownBlock) v325 y324) ∧ Aside0 (Kd.R (Kd.int .i64) 34 w' w.heap.size (fun k_ => some k_ ≠ (v325 : Value).ownBlock) v328 y327) ∧ Aside0 (Below w.heap.size w w'))
 case atStart => exact ⟨(0), rfl, H', ⟨Nat.le_refl _⟩, ⟨by (with_reducible repeat first | apply Kd.R_alloc | apply Kd.R_drewN | apply Kd.R_drew); exact HO323.1⟩, ⟨by (with_reducible repeat first | apply Kd.R_alloc | apply Kd.R_drewN | apply Kd.R_drew); exact Kd.R_mono HO326.1 (fun _ hk => hk.2)⟩, ⟨by (with_reducible repeat first | apply Kd.R_alloc | apply Kd.R_drewN | apply Kd.R_drew); exact Kd.R_mono HO329.1 (fun _ hk => hk.2)⟩, ⟨by apply_rules (transparency := .reducible) [HB.1, bwA, bwN, bwD]⟩⟩
 clear H'
 obtain ⟨x8_1, rfl, HA, HK1, HO_5, HO_6, HO_7, HB⟩ := hrel
 obtain _ | k1 := gk
 ·exact absurd HA.1 (by simp [bodkinref19_named.l0])
 have H := HA.1
 clear HA
 simp only [bodkinref19_named.l0] at H
 by_cases c9 : x8_1 < (y321.length : Int)
 ·rw [if_pos c9] at H
  have c9b0 : decide (x8_1 < (y321.length : Int)) = true := decide_eq_true c9
  clear c9
  have HC10 := aM H
  clear H
  obtain ⟨Ao11, co11, eo11⟩ := Kd.R_slice HO_5.out
  subst eo11
  go_upto_region 7 with (fail)
  go_cut [26] (fun v26 wc => ∃ (kq : Nat) (x26_9 : Bool), v26 = .bool x26_9 ∧ Aside0 (bodkinref19_named.j1 kq a0 a1 y321 y324 y327 x8_1 x26_9 = some r) ∧ Aside0 (kq ≤ k1) ∧ Aside0 (Kd.R (Kd.int .i64) 23 wc w.heap.size (fun _ => True) (.slice Ao11 y321.length co11) y321) ∧ Aside0 (Kd.R (Kd.int .i64) 34 wc w.heap.size (fun k_ => some k_ ≠ (v328 : Value).ownBlock) v325 y324) ∧ Aside0 (Kd.R (Kd.int .i64) 34 wc w.heap.size (fun k_ => some k_ ≠ (v325 : Value).ownBlock) v328 y327) ∧ Aside0 (Below w.heap.size w wc))
  case first =>
   have H := HC10.1
   clear HC10
   by_cases c12 : 0 ≤ x8_1
   ·rw [if_pos c12] at H
    have c12b0 : decide (0 ≤ x8_1) = true := decide_eq_true c12
    clear c12
    (first | rw [c12b0] | (simp only [i64_w, i32_w]; rw [c12b0]) | skip)
    by_cases c13 : (rd y321 x8_1) = a0
    ·rw [if_pos c13] at H
     have c13b0 : ((rd y321 x8_1) == a0) = true := beq_iff_eq.mpr c13
     have c13b1 : ((rd y321 x8_1) != a0) = false := bne_eq_false_iff_eq.mpr c13
     clear c13
     have H' := aM H
     clear H
     have p330 : 0 ≤ (x8_1 : Int) := of_decide_eq_true (by first | (with_reducible assumption) | assumption)
     have q330 : x8_1 < (y321.length : Int) := of_decide_eq_true (by first | (with_reducible assumption) | assumption)
     obtain ⟨ad330, e330, hx330_0⟩ := Kd.at_int (Kd.R_reads' HO_5.out).2.2 x8_1 p330 q330
     cases e330
     replace p330 := eq_true p330
     replace q330 := eq_true q330
     go_wp2
     go_meet
     case rel => exact ⟨_, (a1), rfl, H', ⟨by have := HK1.out; first | omega | exact Nat.le_refl _⟩, ⟨by (with_reducible repeat first | apply Kd.R_alloc | apply Kd.R_drewN | apply Kd.R_drew); exact HO_5.out⟩, ⟨by (with_reducible repeat first | apply Kd.R_alloc | apply Kd.R_drewN | apply Kd.R_drew); exact HO_6.out⟩, ⟨by (with_reducible repeat first | apply Kd.R_alloc | apply Kd.R_drewN | apply Kd.R_drew); exact HO_7.out⟩, ⟨by apply_rules (transparency := .reducible) [HB.1, bwA, bwN, bwD]⟩⟩
    rw [if_neg c13] at H
    have c13b0 : ((rd y321 x8_1) == a0) = false := beq_eq_false_iff_ne.mpr c13
    have c13b1 : ((rd y321 x8_1) != a0) = true := bne_iff_ne.mpr c13
    have H' := aM H
    clear H
    have p330 : 0 ≤ (x8_1 : Int) := of_decide_eq_true (by first | (with_reducible assumption) | assumption)
    have q330 : x8_1 < (y321.length : Int) := of_decide_eq_true (by first | (with_reducible assumption) | assumption)
    obtain ⟨ad330, e330, hx330_0⟩ := Kd.at_int (Kd.R_reads' HO_5.out).2.2 x8_1 p330 q330
    cases e330
    replace p330 := eq_true p330
    replace q330 := eq_true q330
    go_wp2
    go_meet
    case rel => exact ⟨_, (false), rfl, H', ⟨by have := HK1.out; first | omega | exact Nat.le_refl _⟩, ⟨by (with_reducible repeat first | apply Kd.R_alloc | apply Kd.R_drewN | apply Kd.R_drew); exact HO_5.out⟩, ⟨by (with_reducible repeat first | apply Kd.R_alloc | apply Kd.R_drewN | apply Kd.R_drew); exact HO_6.out⟩, ⟨by (with_reducible repeat first | apply Kd.R_alloc | apply Kd.R_drewN | apply Kd.R_drew); exact HO_7.out⟩, ⟨by apply_rules (transparency := .reducible) [HB.1, bwA, bwN, bwD]⟩⟩
   rw [if_neg c12] at H
   exact absurd H (by simp)
  clear HC10
  try clear c9
  try clear c9b0
  obtain ⟨kq, x26_9, rfl, HA, HJ9, HO_5, HO_6, HO_7, HB⟩ := hcut
  obtain _ | kj9 := kq
  ·exact absurd HA.1 (by simp [bodkinref19_named.j1])
  have H := HA.1
  clear HA
  simp only [bodkinref19_named.j1] at H
  by_cases c14 : x26_9 = true
  ·subst c14
   replace H : (if 0 ≤ x8_1 then (if x8_1 < (y327.length : Int) then (some (rd y327 x8_1)) else (none)) else (none)) = some r := by rw [if_pos rfl] at H; exact H
   by_cases c15 : 0 ≤ x8_1
   ·rw [if_pos c15] at H
    have c15b0 : decide (0 ≤ x8_1) = true := decide_eq_true c15
    clear c15
    by_cases c16 : x8_1 < (y327.length : Int)
    ·rw [if_pos c16] at H
     have c16b0 : decide (x8_1 < (y327.length : Int)) = true := decide_eq_true c16
     clear c16
     obtain rfl := Option.some.inj H
     obtain ⟨Ao17, co17, eo17⟩ := Kd.R_slice HO_7.out
     subst eo17
     have p331 : 0 ≤ (x8_1 : Int) := of_decide_eq_true (by first | (with_reducible assumption) | assumption)
     have q331 : x8_1 < (y327.length : Int) := of_decide_eq_true (by first | (with_reducible assumption) | assumption)
     obtain ⟨ad331, e331, hx331_0⟩ := Kd.at_int (Kd.R_reads' HO_7.out).2.2 x8_1 p331 q331
     cases e331
     replace p331 := eq_true p331
     replace q331 := eq_true q331
     go_wp2
     go_ret
     exact ⟨rfl, by apply_rules (transparency := .reducible) [HB.1, bwA, bwN, bwD]⟩
    rw [if_neg c16] at H
    exact absurd H (by simp)
   rw [if_neg c15] at H
   exact absurd H (by simp)
  replace c14 := Bool.eq_false_iff.mpr c14
  subst c14
  replace H : (if 0 ≤ x8_1 then (if x8_1 < (y321.length : Int) then (if (rd y321 x8_1) = a0 then (if x8_1 < (y324.length : Int) then (some (rd y324 x8_1)) else (none)) else (bodkinref19_named.l0 kj9 a0 a1 y321 y324 y327 (wrap64 (x8_1 + 1)))) else (none)) else (none)) = some r := by rw [if_neg (show ¬ (false = true) by decide)] at H; exact H
  by_cases c18 : 0 ≤ x8_1
  ·rw [if_pos c18] at H
   have c18b0 : decide (0 ≤ x8_1) = true := decide_eq_true c18
   clear c18
   by_cases c19 : x8_1 < (y321.length : Int)
   ·rw [if_pos c19] at H
    have c19b0 : decide (x8_1 < (y321.length : Int)) = true := decide_eq_true c19
    clear c19
    by_cases c20 : (rd y321 x8_1) = a0
    ·rw [if_pos c20] at H
     have c20b0 : ((rd y321 x8_1) == a0) = true := beq_iff_eq.mpr c20
     have c20b1 : ((rd y321 x8_1) != a0) = false := bne_eq_false_iff_eq.mpr c20
     clear c20
     by_cases c21 : x8_1 < (y324.length : Int)
     ·rw [if_pos c21] at H
      have c21b0 : decide (x8_1 < (y324.length : Int)) = true := decide_eq_true c21
      clear c21
      obtain rfl := Option.some.inj H
      have p332 : 0 ≤ (x8_1 : Int) := of_decide_eq_true (by first | (with_reducible assumption) | assumption)
      have q332 : x8_1 < (y321.length : Int) := of_decide_eq_true (by first | (with_reducible assumption) | assumption)
      obtain ⟨ad332, e332, hx332_0⟩ := Kd.at_int (Kd.R_reads' HO_5.out).2.2 x8_1 p332 q332
      cases e332
      replace p332 := eq_true p332
      replace q332 := eq_true q332
      obtain ⟨Ao22, co22, eo22⟩ := Kd.R_slice HO_6.out
      subst eo22
      have p333 : 0 ≤ (x8_1 : Int) := of_decide_eq_true (by first | (with_reducible assumption) | assumption)
      have q333 : x8_1 < (y324.length : Int) := of_decide_eq_true (by first | (with_reducible assumption) | assumption)
      obtain ⟨ad333, e333, hx333_0⟩ := Kd.at_int (Kd.R_reads' HO_6.out).2.2 x8_1 p333 q333
      cases e333
      replace p333 := eq_true p333
      replace q333 := eq_true q333
      go_wp2
      go_ret
      exact ⟨rfl, by apply_rules (transparency := .reducible) [HB.1, bwA, bwN, bwD]⟩
     rw [if_neg c21] at H
     exact absurd H (by simp)
    rw [if_neg c20] at H
    have c20b0 : ((rd y321 x8_1) == a0) = false := beq_eq_false_iff_ne.mpr c20
    have c20b1 : ((rd y321 x8_1) != a0) = true := bne_iff_ne.mpr c20
    have H' := aM H
    clear H
    have p332 : 0 ≤ (x8_1 : Int) := of_decide_eq_true (by first | (with_reducible assumption) | assumption)
    have q332 : x8_1 < (y321.length : Int) := of_decide_eq_true (by first | (with_reducible assumption) | assumption)
    obtain ⟨ad332, e332, hx332_0⟩ := Kd.at_int (Kd.R_reads' HO_5.out).2.2 x8_1 p332 q332
    cases e332
    replace p332 := eq_true p332
    replace q332 := eq_true q332
    go_wp2
    go_roundg kj9
    case measure => have := HK1.out; have := HJ9.1; omega
    case rel => exact ⟨(wrap64 (x8_1 + 1)), rfl, H', ⟨by have := HK1.out; have := HJ9.1; omega⟩, ⟨by (with_reducible repeat first | apply Kd.R_alloc | apply Kd.R_drewN | apply Kd.R_drew); exact HO_5.out⟩, ⟨by (with_reducible repeat first | apply Kd.R_alloc | apply Kd.R_drewN | apply Kd.R_drew); exact HO_6.out⟩, ⟨by (with_reducible repeat first | apply Kd.R_alloc | apply Kd.R_drewN | apply Kd.R_drew); exact HO_7.out⟩, ⟨by apply_rules (transparency := .reducible) [HB.1, bwA, bwN, bwD]⟩⟩
   rw [if_neg c19] at H
   exact absurd H (by simp)
  rw [if_neg c18] at H
  exact absurd H (by simp)
 rw [if_neg c9] at H
 have c9b0 : decide (x8_1 < (y321.length : Int)) = false := decide_eq_false c9
 clear c9
 obtain rfl := Option.some.inj H
 obtain ⟨Ao23, co23, eo23⟩ := Kd.R_slice HO_5.out
 subst eo23
 go_wp2
 go_ret
 exact ⟨rfl, by apply_rules (transparency := .reducible) [HB.1, bwA, bwN, bwD]⟩

/-! ### bodkinref19_single: function 39 -/
def bodkinref19_single.j0 : Nat → Bool → Int → Int → Bool → Bool → Bool → ByteArray → Option (Int × Int × ByteArray × Int)
  | 0, _, _, _, _, _, _, _ => none
  | k + 1, x3, x335000, x335001, x335002, x335003, x335004, x335005 => if x335000 = 1 then (if x3 = true then ((bodkinref19_typed.f k x335000 x335001 x335002 x335003 x335004 x335005).bind fun t336 => ((bodkinref19_insert.f t336).bind fun bt337 => (some (bt337.1, bt337.2.1, bt337.2.2.1, bt337.2.2.2)))) else (if x335002 = true then (some (40, 0, (⟨#[]⟩ : ByteArray), 0)) else ((bodkinref19_meta.f k x335001).bind fun t341 => (some (t341, 0, (⟨#[]⟩ : ByteArray), 0))))) else (if x335000 = 4 then (if x3 = true then ((bodkinref19_insert.f x335005).bind fun bt342 => (some (bt342.1, bt342.2.1, bt342.2.2.1, bt342.2.2.2))) else (some (40, 0, (⟨#[]⟩ : ByteArray), 0))) else (if x335000 = 2 then (if x335003 = true then (if x335001 = 72 then (some (17, 0, (⟨#[]⟩ : ByteArray), 0)) else (if x335001 = 63 then (some (17, 0, (⟨#[]⟩ : ByteArray), 0)) else (some (40, 0, (⟨#[]⟩ : ByteArray), 0)))) else ((bodkinref19_control.f x335001).bind fun bt346 => (some (bt346.1, bt346.2.1, bt346.2.2.1, bt346.2.2.2)))) else (if x335000 = 17 then (some (39, 0, x335005, 0)) else ((bodkinref19_named.f k x335000 (!x3)).bind fun t350 => (some (t350, 0, (⟨#[]⟩ : ByteArray), 0))))))
def bodkinref19_single.f (k : Nat) (a0_0 : Int) (a0_1 : Int) (a0_2 : Bool) (a0_3 : Bool) (a0_4 : Bool) (a0_5 : ByteArray) : Option (Int × Int × ByteArray × Int) := if a0_2 = true then (bodkinref19_single.j0 k false a0_0 a0_1 a0_2 a0_3 a0_4 a0_5) else (bodkinref19_single.j0 k (!a0_3) a0_0 a0_1 a0_2 a0_3 a0_4 a0_5)
theorem bodkinref19_single.mono_l : ∀ k, (∀ y0 y1 y2 y3 y4 y5 y6, LeO (bodkinref19_single.j0 k y0 y1 y2 y3 y4 y5 y6) (bodkinref19_single.j0 (k + 1) y0 y1 y2 y3 y4 y5 y6))
  | 0 => fun _ _ _ _ _ _ _ r h => by simp [bodkinref19_single.j0] at h
  | k + 1 => by
    have ih0 := bodkinref19_single.mono_l k
    · intro y0 y1 y2 y3 y4 y5 y6
      unfold bodkinref19_single.j0
      repeat' first
      | (with_reducible exact ih0 _ _ _ _ _ _ _)
      | (with_reducible exact bodkinref19_meta.mono _ _)
      | (with_reducible exact bodkinref19_named.mono _ _ _)
      | (with_reducible exact bodkinref19_typed.mono _ _ _ _ _ _ _)
      | (with_reducible exact LeO.refl _)
      | (with_reducible exact LeO.none _)
      | (with_reducible refine LeO.ite ?_ ?_)
      | (with_reducible refine LeO.bind ?_ (fun _ => ?_))
      | exact ih0 _ _ _ _ _ _ _
      | exact bodkinref19_meta.mono _ _
      | exact bodkinref19_named.mono _ _ _
      | exact bodkinref19_typed.mono _ _ _ _ _ _ _
      | exact LeO.none _
      | refine LeO.ite ?_ ?_
      | refine LeO.bind ?_ (fun _ => ?_)
theorem bodkinref19_single.mono : ∀ a0 a1 a2 a3 a4 a5 k, LeO (bodkinref19_single.f k a0 a1 a2 a3 a4 a5) (bodkinref19_single.f (k + 1) a0 a1 a2 a3 a4 a5) := by
 intro a0 a1 a2 a3 a4 a5 k
 have ih0 := bodkinref19_single.mono_l k
 unfold bodkinref19_single.f
 repeat' first
   | (with_reducible exact ih0 _ _ _ _ _ _ _)
   | (with_reducible exact bodkinref19_meta.mono _ _)
   | (with_reducible exact bodkinref19_named.mono _ _ _)
   | (with_reducible exact bodkinref19_typed.mono _ _ _ _ _ _ _)
   | (with_reducible exact LeO.refl _)
   | (with_reducible exact LeO.none _)
   | (with_reducible refine LeO.ite ?_ ?_)
   | (with_reducible refine LeO.bind ?_ (fun _ => ?_))
   | exact ih0 _ _ _ _ _ _ _
   | exact bodkinref19_meta.mono _ _
   | exact bodkinref19_named.mono _ _ _
   | exact bodkinref19_typed.mono _ _ _ _ _ _ _
   | exact LeO.none _
   | refine LeO.ite ?_ ?_
   | refine LeO.bind ?_ (fun _ => ?_)
set_option maxHeartbeats 8000000 in
set_option maxRecDepth 100000 in
theorem bodkinref19_single.calls (k : Nat) (a0_0 : Int) (a0_1 : Int) (a0_2 : Bool) (a0_3 : Bool) (a0_4 : Bool) (a0_5 : ByteArray) (r1 : Int) (r2 : Int) (r3 : ByteArray) (r4 : Int) (w : World) (h : bodkinref19_single.f k a0_0 a0_1 a0_2 a0_3 a0_4 a0_5 = some (r1, r2, r3, r4)) :
    Calls Try.prog 39 #[.agg #[.int .i64 a0_0, .int .i32 a0_1, .bool a0_2, .bool a0_3, .bool a0_4, .string a0_5]] w fun e w' => e = .returned (.agg #[.int .i64 r1, .int .i64 r2, .string r3, .int .u8 r4]) ∧ Below w.heap.size w w' := by
 have hu25 := Try.underlying25
 have hu36 := Try.underlying36
 have HB := aM (Below.refl w.heap.size w)
 have H : (if a0_2 = true then (bodkinref19_single.j0 k false a0_0 a0_1 a0_2 a0_3 a0_4 a0_5) else (bodkinref19_single.j0 k (!a0_3) a0_0 a0_1 a0_2 a0_3 a0_4 a0_5)) = some (r1, r2, r3, r4) := h
 clear h
 have HC2 := aM H
 clear H
 go_enter Try.func39, Try.ntmps39
 go_upto_region 1 with (first | ((with_reducible refine gate_dst (N := 1) rfl ?_); refine box_event ?hg (N := 1) ?hd (cs := #[.int .i64 a0_0, .int .i32 a0_1, .bool a0_2, .bool a0_3, .bool a0_4, .string a0_5]) (t := 25) ?hr ?_; (case hd => rfl); (case hg => rfl); (case hr => first | (go_simp; done) | (go_simp; rfl)); intro gb334 hg w3 hbox hb; have BK334 := aM (hbox); have GW334 := aM ((by rw [hg]; exact (bwZ (by apply_rules (transparency := .reducible) [HB.1, bwA, bwN, bwD])) : w.heap.size ≤ gb334)); have GE334 := aM ((by rw [hg]; exact (bwZ (by apply_rules (transparency := .reducible) [HB.1, bwA, bwN, bwD])) : w.heap.size ≤ gb334)); replace HB := aM (bwP (by apply_rules (transparency := .reducible) [HB.1, bwA, bwN, bwD]) hb); clear hb hbox hg) | ((with_reducible refine gate_dst (N := 2) rfl ?_); refine box_event ?hg (N := 2) ?hd (cs := #[.int .i64 0, .int .i64 0, .string (⟨#[]⟩ : ByteArray), .int .u8 0]) (t := 36) ?hr ?_; (case hd => rfl); (case hg => rfl); (case hr => first | (go_simp; done) | (go_simp; rfl)); intro gb335 hg w4 hbox hb; have BK335 := aM (hbox); have GW335 := aM ((by rw [hg]; exact (bwZ (by apply_rules (transparency := .reducible) [HB.1, bwA, bwN, bwD, bwS, GE334.1])) : w.heap.size ≤ gb335)); have GE335 := aM ((by rw [hg]; exact (bwZ (by apply_rules (transparency := .reducible) [HB.1, bwA, bwN, bwD, bwS, GE334.1])) : w.heap.size ≤ gb335)); replace HB := aM (bwP (by apply_rules (transparency := .reducible) [HB.1, bwA, bwN, bwD, bwS, GE334.1]) hb); have NB334_335 := aM ((by rw [hg]; exact Nat.ne_of_lt (blk_lt (g := gb334) (o := .cells #[.int .i64 a0_0, .int .i32 a0_1, .bool a0_2, .bool a0_3, .bool a0_4, .string a0_5] 25 (0, 0)) (by apply_rules (transparency := .reducible) [BK334.1, bkN, bkD, bkA])) : gb334 ≠ gb335)); have NB335_334 := aM ((by rw [hg]; exact Nat.ne_of_gt (blk_lt (g := gb334) (o := .cells #[.int .i64 a0_0, .int .i32 a0_1, .bool a0_2, .bool a0_3, .bool a0_4, .string a0_5] 25 (0, 0)) (by apply_rules (transparency := .reducible) [BK334.1, bkN, bkD, bkA])) : gb335 ≠ gb334)); replace BK334 := aM (bkB (g := gb334) (o := .cells #[.int .i64 a0_0, .int .i32 a0_1, .bool a0_2, .bool a0_3, .bool a0_4, .string a0_5] 25 (0, 0)) (by apply_rules (transparency := .reducible) [BK334.1, bkN, bkD, bkA]) hb); clear hb hbox hg))
 (try simp only [Act.put, List.setIfInBounds_toArray, List.set_cons_zero, List.set_cons_succ])
 go_cut [3] (fun v3 wc => ∃ (kq : Nat) (x3_1 : Bool), v3 = .bool x3_1 ∧ Aside0 (bodkinref19_single.j0 kq x3_1 a0_0 a0_1 a0_2 a0_3 a0_4 a0_5 = some (r1, r2, r3, r4)) ∧ Aside0 (kq ≤ k) ∧ Aside0 (wc.heap[gb334]? = some (.cells #[.int .i64 a0_0, .int .i32 a0_1, .bool a0_2, .bool a0_3, .bool a0_4, .string a0_5] 25 (0, 0))) ∧ Aside0 (wc.heap[gb335]? = some (.cells #[.int .i64 0, .int .i64 0, .string (⟨#[]⟩ : ByteArray), .int .u8 0] 36 (0, 0))) ∧ Aside0 (Below w.heap.size w wc))
 case first =>
  have H := HC2.1
  clear HC2
  by_cases c5 : a0_2 = true
  ·subst c5
   replace H : (bodkinref19_single.j0 k false a0_0 a0_1 true a0_3 a0_4 a0_5) = some (r1, r2, r3, r4) := by rw [if_pos rfl] at H; exact H
   have H' := aM H
   clear H
   have hnb6 := NB334_335.1
   have hnc6 := NB335_334.1
   obtain ⟨z7_0, z7_1, z7_2, z7_3, z7_4, z7_5, z7_6, z7_7, z7_8, z7_9, z7_10, z7_11⟩ := bx6 BK334.1
   go_wp2
   go_meet
   case rel => exact ⟨_, (false), rfl, H', ⟨by omega⟩, ⟨by apply_rules (transparency := .reducible) [BK334.1, bkN, bkD, bkA]⟩, ⟨by apply_rules (transparency := .reducible) [BK335.1, bkN, bkD, bkA]⟩, ⟨by apply_rules (transparency := .reducible) [HB.1, bwA, bwN, bwD, bwS, GE334.1, GE335.1]⟩⟩
  replace c5 := Bool.eq_false_iff.mpr c5
  subst c5
  replace H : (bodkinref19_single.j0 k (!a0_3) a0_0 a0_1 false a0_3 a0_4 a0_5) = some (r1, r2, r3, r4) := by rw [if_neg (show ¬ (false = true) by decide)] at H; exact H
  have H' := aM H
  clear H
  have hnb8 := NB334_335.1
  have hnc8 := NB335_334.1
  obtain ⟨z9_0, z9_1, z9_2, z9_3, z9_4, z9_5, z9_6, z9_7, z9_8, z9_9, z9_10, z9_11⟩ := bx6 BK334.1
  go_wp2
  go_meet
  case rel => exact ⟨_, (!a0_3), rfl, H', ⟨by omega⟩, ⟨by apply_rules (transparency := .reducible) [BK334.1, bkN, bkD, bkA]⟩, ⟨by apply_rules (transparency := .reducible) [BK335.1, bkN, bkD, bkA]⟩, ⟨by apply_rules (transparency := .reducible) [HB.1, bwA, bwN, bwD, bwS, GE334.1, GE335.1]⟩⟩
 clear HC2
 obtain ⟨kq, x3_1, rfl, HA, HJ1, BK334, BK335, HB⟩ := hcut
 obtain _ | kj1 := kq
 ·exact absurd HA.1 (by simp [bodkinref19_single.j0])
 have H := HA.1
 clear HA
 simp only [bodkinref19_single.j0] at H
 by_cases c10 : a0_0 = 1
 ·rw [if_pos c10] at H
  have c10b0 : (a0_0 == 1) = true := beq_iff_eq.mpr c10
  have c10b1 : (a0_0 != 1) = false := bne_eq_false_iff_eq.mpr c10
  clear c10
  by_cases c11 : x3_1 = true
  ·subst c11
   replace H : ((bodkinref19_typed.f kj1 a0_0 a0_1 a0_2 a0_3 a0_4 a0_5).bind fun t336 => ((bodkinref19_insert.f t336).bind fun bt337 => (some (bt337.1, bt337.2.1, bt337.2.2.1, bt337.2.2.2)))) = some (r1, r2, r3, r4) := by rw [if_pos rfl] at H; exact H
   replace H := Option.bind_eq_some_iff.mp H
   obtain ⟨t336, A120, H⟩ := H
   replace H : ((bodkinref19_insert.f t336).bind fun bt337 => (some (bt337.1, bt337.2.1, bt337.2.2.1, bt337.2.2.2))) = some (r1, r2, r3, r4) := H
   have A12 := aM A120
   clear A120
   replace H := Option.bind_eq_some_iff.mp H
   obtain ⟨⟨t337, t338, t339, t340⟩, A130, H⟩ := H
   replace H : (some (t337, t338, t339, t340)) = some (r1, r2, r3, r4) := H
   have A13 := aM A130
   clear A130
   simp only [Option.some.injEq, Prod.mk.injEq] at H
   obtain ⟨rfl, rfl, rfl, rfl⟩ := H
   have hnb14 := NB334_335.1
   have hnc14 := NB335_334.1
   obtain ⟨z15_0, z15_1, z15_2, z15_3, z15_4, z15_5, z15_6, z15_7, z15_8, z15_9, z15_10, z15_11⟩ := bx6 BK334.1
   go_wp2_with (first | ((with_reducible refine gate_callee (f := 51) rfl ?_); refine goesL_ (some 19) rfl rfl Try.func51 (by kernel_rfl) rfl #[.agg #[.int .i64 a0_0, .int .i32 a0_1, .bool a0_2, .bool a0_3, .bool a0_4, .string a0_5]] rfl (by (try simp only [List.map_toArray, List.map_cons, List.map_nil]); first | done | rfl) ?_; (with_reducible refine (bodkinref19_typed.calls kj1 a0_0 a0_1 a0_2 a0_3 a0_4 a0_5 t336 _ A12.1).mono ?_); rintro e w16 ⟨rfl, hb⟩; refine ⟨_, rfl, ?_⟩; replace BK334 := aM (bkB (g := gb334) (o := .cells #[.int .i64 a0_0, .int .i32 a0_1, .bool a0_2, .bool a0_3, .bool a0_4, .string a0_5] 25 (0, 0)) (by apply_rules (transparency := .reducible) [BK334.1, bkN, bkD, bkA]) hb); replace BK335 := aM (bkB (g := gb335) (o := .cells #[.int .i64 0, .int .i64 0, .string (⟨#[]⟩ : ByteArray), .int .u8 0] 36 (0, 0)) (by apply_rules (transparency := .reducible) [BK335.1, bkN, bkD, bkA]) hb); replace HB := aM (bwP (by apply_rules (transparency := .reducible) [HB.1, bwA, bwN, bwD, bwS, GE334.1, GE335.1]) hb); (try clear hb); (try clear hb2); (try clear hk); (try clear hi)) | ((with_reducible refine gate_callee (f := 50) rfl ?_); refine goesL_ (some 20) rfl rfl Try.func50 (by kernel_rfl) rfl #[.string t336] rfl (by (try simp only [List.map_toArray, List.map_cons, List.map_nil]); first | done | rfl) ?_; (with_reducible refine (bodkinref19_insert.calls t336 t337 t338 t339 t340 _ A13.1).mono ?_); rintro e w17 ⟨rfl, hb⟩; refine ⟨_, rfl, ?_⟩; replace BK334 := aM (bkB (g := gb334) (o := .cells #[.int .i64 a0_0, .int .i32 a0_1, .bool a0_2, .bool a0_3, .bool a0_4, .string a0_5] 25 (0, 0)) (by apply_rules (transparency := .reducible) [BK334.1, bkN, bkD, bkA]) hb); replace BK335 := aM (bkB (g := gb335) (o := .cells #[.int .i64 0, .int .i64 0, .string (⟨#[]⟩ : ByteArray), .int .u8 0] 36 (0, 0)) (by apply_rules (transparency := .reducible) [BK335.1, bkN, bkD, bkA]) hb); replace HB := aM (bwP (by apply_rules (transparency := .reducible) [HB.1, bwA, bwN, bwD, bwS, GE334.1, GE335.1]) hb); (try clear hb); (try clear hb2); (try clear hk); (try clear hi); obtain ⟨z18_0, z18_1, z18_2, z18_3, z18_4, z18_5, z18_6, z18_7⟩ := bx4 BK335.1))
   refine bodyPost_ret (results_cell_row rfl _ _ gb335 36 #[.int .i64 t337, .int .i64 t338, .string t339, .int .u8 t340] (0, 0) _ rfl (by (with_reducible repeat first | apply bkN | apply bkD | apply bkA); refine put4 (cs := #[.int .i64 0, .int .i64 0, .string (⟨#[]⟩ : ByteArray), .int .u8 0]) ?_ rfl; (with_reducible repeat first | apply bkN | apply bkD | apply bkA); exact BK335.1) Try.underlying36 rfl (by kernel_rfl)) rfl ?_
   exact ⟨rfl, by apply_rules (transparency := .reducible) [HB.1, bwA, bwN, bwD, bwS, GE334.1, GE335.1]⟩
  replace c11 := Bool.eq_false_iff.mpr c11
  subst c11
  replace H : (if a0_2 = true then (some (40, 0, (⟨#[]⟩ : ByteArray), 0)) else ((bodkinref19_meta.f kj1 a0_1).bind fun t341 => (some (t341, 0, (⟨#[]⟩ : ByteArray), 0)))) = some (r1, r2, r3, r4) := by rw [if_neg (show ¬ (false = true) by decide)] at H; exact H
  by_cases c19 : a0_2 = true
  ·subst c19
   replace H : (some (40, 0, (⟨#[]⟩ : ByteArray), 0)) = some (r1, r2, r3, r4) := by rw [if_pos rfl] at H; exact H
   simp only [Option.some.injEq, Prod.mk.injEq] at H
   obtain ⟨rfl, rfl, rfl, rfl⟩ := H
   have hnb20 := NB334_335.1
   have hnc20 := NB335_334.1
   obtain ⟨z21_0, z21_1, z21_2, z21_3, z21_4, z21_5, z21_6, z21_7, z21_8, z21_9, z21_10, z21_11⟩ := bx6 BK334.1
   obtain ⟨z22_0, z22_1, z22_2, z22_3, z22_4, z22_5, z22_6, z22_7⟩ := bx4 BK335.1
   go_wp2
   refine bodyPost_ret (results_cell_row rfl _ _ gb335 36 #[.int .i64 40, .int .i64 0, .string (⟨#[]⟩ : ByteArray), .int .u8 0] (0, 0) _ rfl (by (with_reducible repeat first | apply bkN | apply bkD | apply bkA); refine put4 (cs := #[.int .i64 0, .int .i64 0, .string (⟨#[]⟩ : ByteArray), .int .u8 0]) ?_ rfl; (with_reducible repeat first | apply bkN | apply bkD | apply bkA); exact BK335.1) Try.underlying36 rfl (by kernel_rfl)) rfl ?_
   exact ⟨rfl, by apply_rules (transparency := .reducible) [HB.1, bwA, bwN, bwD, bwS, GE334.1, GE335.1]⟩
  replace c19 := Bool.eq_false_iff.mpr c19
  subst c19
  replace H : ((bodkinref19_meta.f kj1 a0_1).bind fun t341 => (some (t341, 0, (⟨#[]⟩ : ByteArray), 0))) = some (r1, r2, r3, r4) := by rw [if_neg (show ¬ (false = true) by decide)] at H; exact H
  replace H := Option.bind_eq_some_iff.mp H
  obtain ⟨t341, A230, H⟩ := H
  replace H : (some (t341, 0, (⟨#[]⟩ : ByteArray), 0)) = some (r1, r2, r3, r4) := H
  have A23 := aM A230
  clear A230
  simp only [Option.some.injEq, Prod.mk.injEq] at H
  obtain ⟨rfl, rfl, rfl, rfl⟩ := H
  have hnb24 := NB334_335.1
  have hnc24 := NB335_334.1
  obtain ⟨z25_0, z25_1, z25_2, z25_3, z25_4, z25_5, z25_6, z25_7, z25_8, z25_9, z25_10, z25_11⟩ := bx6 BK334.1
  go_wp2_with (first | ((with_reducible refine gate_callee (f := 52) rfl ?_); refine goesL_ (some 27) rfl rfl Try.func52 (by kernel_rfl) rfl #[.int .i32 a0_1] rfl (by (try simp only [List.map_toArray, List.map_cons, List.map_nil]); first | done | rfl) ?_; (with_reducible refine (bodkinref19_meta.calls kj1 a0_1 t341 _ A23.1).mono ?_); rintro e w26 ⟨rfl, hb⟩; refine ⟨_, rfl, ?_⟩; replace BK334 := aM (bkB (g := gb334) (o := .cells #[.int .i64 a0_0, .int .i32 a0_1, .bool false, .bool a0_3, .bool a0_4, .string a0_5] 25 (0, 0)) (by apply_rules (transparency := .reducible) [BK334.1, bkN, bkD, bkA]) hb); replace BK335 := aM (bkB (g := gb335) (o := .cells #[.int .i64 0, .int .i64 0, .string (⟨#[]⟩ : ByteArray), .int .u8 0] 36 (0, 0)) (by apply_rules (transparency := .reducible) [BK335.1, bkN, bkD, bkA]) hb); replace HB := aM (bwP (by apply_rules (transparency := .reducible) [HB.1, bwA, bwN, bwD, bwS, GE334.1, GE335.1]) hb); (try clear hb); (try clear hb2); (try clear hk); (try clear hi); obtain ⟨z27_0, z27_1, z27_2, z27_3, z27_4, z27_5, z27_6, z27_7⟩ := bx4 BK335.1))
  refine bodyPost_ret (results_cell_row rfl _ _ gb335 36 #[.int .i64 t341, .int .i64 0, .string (⟨#[]⟩ : ByteArray), .int .u8 0] (0, 0) _ rfl (by (with_reducible repeat first | apply bkN | apply bkD | apply bkA); refine put4 (cs := #[.int .i64 0, .int .i64 0, .string (⟨#[]⟩ : ByteArray), .int .u8 0]) ?_ rfl; (with_reducible repeat first | apply bkN | apply bkD | apply bkA); exact BK335.1) Try.underlying36 rfl (by kernel_rfl)) rfl ?_
  exact ⟨rfl, by apply_rules (transparency := .reducible) [HB.1, bwA, bwN, bwD, bwS, GE334.1, GE335.1]⟩
 rw [if_neg c10] at H
 have c10b0 : (a0_0 == 1) = false := beq_eq_false_iff_ne.mpr c10
 have c10b1 : (a0_0 != 1) = true := bne_iff_ne.mpr c10
 by_cases c28 : a0_0 = 4
 ·rw [if_pos c28] at H
  have c28b0 : (a0_0 == 4) = true := beq_iff_eq.mpr c28
  have c28b1 : (a0_0 != 4) = false := bne_eq_false_iff_eq.mpr c28
  clear c28
  by_cases c29 : x3_1 = true
  ·subst c29
   replace H : ((bodkinref19_insert.f a0_5).bind fun bt342 => (some (bt342.1, bt342.2.1, bt342.2.2.1, bt342.2.2.2))) = some (r1, r2, r3, r4) := by rw [if_pos rfl] at H; exact H
   replace H := Option.bind_eq_some_iff.mp H
   obtain ⟨⟨t342, t343, t344, t345⟩, A300, H⟩ := H
   replace H : (some (t342, t343, t344, t345)) = some (r1, r2, r3, r4) := H
   have A30 := aM A300
   clear A300
   simp only [Option.some.injEq, Prod.mk.injEq] at H
   obtain ⟨rfl, rfl, rfl, rfl⟩ := H
   have hnb31 := NB334_335.1
   have hnc31 := NB335_334.1
   obtain ⟨z32_0, z32_1, z32_2, z32_3, z32_4, z32_5, z32_6, z32_7, z32_8, z32_9, z32_10, z32_11⟩ := bx6 BK334.1
   go_wp2_with (first | ((with_reducible refine gate_callee (f := 50) rfl ?_); refine goesL_ (some 34) rfl rfl Try.func50 (by kernel_rfl) rfl #[.string a0_5] rfl (by (try simp only [List.map_toArray, List.map_cons, List.map_nil]); first | done | rfl) ?_; (with_reducible refine (bodkinref19_insert.calls a0_5 t342 t343 t344 t345 _ A30.1).mono ?_); rintro e w33 ⟨rfl, hb⟩; refine ⟨_, rfl, ?_⟩; replace BK334 := aM (bkB (g := gb334) (o := .cells #[.int .i64 a0_0, .int .i32 a0_1, .bool a0_2, .bool a0_3, .bool a0_4, .string a0_5] 25 (0, 0)) (by apply_rules (transparency := .reducible) [BK334.1, bkN, bkD, bkA]) hb); replace BK335 := aM (bkB (g := gb335) (o := .cells #[.int .i64 0, .int .i64 0, .string (⟨#[]⟩ : ByteArray), .int .u8 0] 36 (0, 0)) (by apply_rules (transparency := .reducible) [BK335.1, bkN, bkD, bkA]) hb); replace HB := aM (bwP (by apply_rules (transparency := .reducible) [HB.1, bwA, bwN, bwD, bwS, GE334.1, GE335.1]) hb); (try clear hb); (try clear hb2); (try clear hk); (try clear hi); obtain ⟨z34_0, z34_1, z34_2, z34_3, z34_4, z34_5, z34_6, z34_7⟩ := bx4 BK335.1))
   refine bodyPost_ret (results_cell_row rfl _ _ gb335 36 #[.int .i64 t342, .int .i64 t343, .string t344, .int .u8 t345] (0, 0) _ rfl (by (with_reducible repeat first | apply bkN | apply bkD | apply bkA); refine put4 (cs := #[.int .i64 0, .int .i64 0, .string (⟨#[]⟩ : ByteArray), .int .u8 0]) ?_ rfl; (with_reducible repeat first | apply bkN | apply bkD | apply bkA); exact BK335.1) Try.underlying36 rfl (by kernel_rfl)) rfl ?_
   exact ⟨rfl, by apply_rules (transparency := .reducible) [HB.1, bwA, bwN, bwD, bwS, GE334.1, GE335.1]⟩
  replace c29 := Bool.eq_false_iff.mpr c29
  subst c29
  replace H : (some (40, 0, (⟨#[]⟩ : ByteArray), 0)) = some (r1, r2, r3, r4) := by rw [if_neg (show ¬ (false = true) by decide)] at H; exact H
  simp only [Option.some.injEq, Prod.mk.injEq] at H
  obtain ⟨rfl, rfl, rfl, rfl⟩ := H
  have hnb35 := NB334_335.1
  have hnc35 := NB335_334.1
  obtain ⟨z36_0, z36_1, z36_2, z36_3, z36_4, z36_5, z36_6, z36_7, z36_8, z36_9, z36_10, z36_11⟩ := bx6 BK334.1
  obtain ⟨z37_0, z37_1, z37_2, z37_3, z37_4, z37_5, z37_6, z37_7⟩ := bx4 BK335.1
  go_wp2
  refine bodyPost_ret (results_cell_row rfl _ _ gb335 36 #[.int .i64 40, .int .i64 0, .string (⟨#[]⟩ : ByteArray), .int .u8 0] (0, 0) _ rfl (by (with_reducible repeat first | apply bkN | apply bkD | apply bkA); refine put4 (cs := #[.int .i64 0, .int .i64 0, .string (⟨#[]⟩ : ByteArray), .int .u8 0]) ?_ rfl; (with_reducible repeat first | apply bkN | apply bkD | apply bkA); exact BK335.1) Try.underlying36 rfl (by kernel_rfl)) rfl ?_
  exact ⟨rfl, by apply_rules (transparency := .reducible) [HB.1, bwA, bwN, bwD, bwS, GE334.1, GE335.1]⟩
 rw [if_neg c28] at H
 have c28b0 : (a0_0 == 4) = false := beq_eq_false_iff_ne.mpr c28
 have c28b1 : (a0_0 != 4) = true := bne_iff_ne.mpr c28
 by_cases c38 : a0_0 = 2
 ·rw [if_pos c38] at H
  have c38b0 : (a0_0 == 2) = true := beq_iff_eq.mpr c38
  have c38b1 : (a0_0 != 2) = false := bne_eq_false_iff_eq.mpr c38
  clear c38
  by_cases c39 : a0_3 = true
  ·subst c39
   replace H : (if a0_1 = 72 then (some (17, 0, (⟨#[]⟩ : ByteArray), 0)) else (if a0_1 = 63 then (some (17, 0, (⟨#[]⟩ : ByteArray), 0)) else (some (40, 0, (⟨#[]⟩ : ByteArray), 0)))) = some (r1, r2, r3, r4) := by rw [if_pos rfl] at H; exact H
   by_cases c40 : a0_1 = 72
   ·rw [if_pos c40] at H
    have c40b0 : (a0_1 == 72) = true := beq_iff_eq.mpr c40
    have c40b1 : (a0_1 != 72) = false := bne_eq_false_iff_eq.mpr c40
    clear c40
    simp only [Option.some.injEq, Prod.mk.injEq] at H
    obtain ⟨rfl, rfl, rfl, rfl⟩ := H
    have hnb41 := NB334_335.1
    have hnc41 := NB335_334.1
    obtain ⟨z42_0, z42_1, z42_2, z42_3, z42_4, z42_5, z42_6, z42_7, z42_8, z42_9, z42_10, z42_11⟩ := bx6 BK334.1
    obtain ⟨z43_0, z43_1, z43_2, z43_3, z43_4, z43_5, z43_6, z43_7⟩ := bx4 BK335.1
    go_wp2
    refine bodyPost_ret (results_cell_row rfl _ _ gb335 36 #[.int .i64 17, .int .i64 0, .string (⟨#[]⟩ : ByteArray), .int .u8 0] (0, 0) _ rfl (by (with_reducible repeat first | apply bkN | apply bkD | apply bkA); refine put4 (cs := #[.int .i64 0, .int .i64 0, .string (⟨#[]⟩ : ByteArray), .int .u8 0]) ?_ rfl; (with_reducible repeat first | apply bkN | apply bkD | apply bkA); exact BK335.1) Try.underlying36 rfl (by kernel_rfl)) rfl ?_
    exact ⟨rfl, by apply_rules (transparency := .reducible) [HB.1, bwA, bwN, bwD, bwS, GE334.1, GE335.1]⟩
   rw [if_neg c40] at H
   have c40b0 : (a0_1 == 72) = false := beq_eq_false_iff_ne.mpr c40
   have c40b1 : (a0_1 != 72) = true := bne_iff_ne.mpr c40
   by_cases c44 : a0_1 = 63
   ·rw [if_pos c44] at H
    have c44b0 : (a0_1 == 63) = true := beq_iff_eq.mpr c44
    have c44b1 : (a0_1 != 63) = false := bne_eq_false_iff_eq.mpr c44
    clear c44
    simp only [Option.some.injEq, Prod.mk.injEq] at H
    obtain ⟨rfl, rfl, rfl, rfl⟩ := H
    have hnb45 := NB334_335.1
    have hnc45 := NB335_334.1
    obtain ⟨z46_0, z46_1, z46_2, z46_3, z46_4, z46_5, z46_6, z46_7, z46_8, z46_9, z46_10, z46_11⟩ := bx6 BK334.1
    obtain ⟨z47_0, z47_1, z47_2, z47_3, z47_4, z47_5, z47_6, z47_7⟩ := bx4 BK335.1
    go_wp2
    refine bodyPost_ret (results_cell_row rfl _ _ gb335 36 #[.int .i64 17, .int .i64 0, .string (⟨#[]⟩ : ByteArray), .int .u8 0] (0, 0) _ rfl (by (with_reducible repeat first | apply bkN | apply bkD | apply bkA); refine put4 (cs := #[.int .i64 0, .int .i64 0, .string (⟨#[]⟩ : ByteArray), .int .u8 0]) ?_ rfl; (with_reducible repeat first | apply bkN | apply bkD | apply bkA); exact BK335.1) Try.underlying36 rfl (by kernel_rfl)) rfl ?_
    exact ⟨rfl, by apply_rules (transparency := .reducible) [HB.1, bwA, bwN, bwD, bwS, GE334.1, GE335.1]⟩
   rw [if_neg c44] at H
   have c44b0 : (a0_1 == 63) = false := beq_eq_false_iff_ne.mpr c44
   have c44b1 : (a0_1 != 63) = true := bne_iff_ne.mpr c44
   simp only [Option.some.injEq, Prod.mk.injEq] at H
   obtain ⟨rfl, rfl, rfl, rfl⟩ := H
   have hnb48 := NB334_335.1
   have hnc48 := NB335_334.1
   obtain ⟨z49_0, z49_1, z49_2, z49_3, z49_4, z49_5, z49_6, z49_7, z49_8, z49_9, z49_10, z49_11⟩ := bx6 BK334.1
   obtain ⟨z50_0, z50_1, z50_2, z50_3, z50_4, z50_5, z50_6, z50_7⟩ := bx4 BK335.1
   go_wp2
   refine bodyPost_ret (results_cell_row rfl _ _ gb335 36 #[.int .i64 40, .int .i64 0, .string (⟨#[]⟩ : ByteArray), .int .u8 0] (0, 0) _ rfl (by (with_reducible repeat first | apply bkN | apply bkD | apply bkA); refine put4 (cs := #[.int .i64 0, .int .i64 0, .string (⟨#[]⟩ : ByteArray), .int .u8 0]) ?_ rfl; (with_reducible repeat first | apply bkN | apply bkD | apply bkA); exact BK335.1) Try.underlying36 rfl (by kernel_rfl)) rfl ?_
   exact ⟨rfl, by apply_rules (transparency := .reducible) [HB.1, bwA, bwN, bwD, bwS, GE334.1, GE335.1]⟩
  replace c39 := Bool.eq_false_iff.mpr c39
  subst c39
  replace H : ((bodkinref19_control.f a0_1).bind fun bt346 => (some (bt346.1, bt346.2.1, bt346.2.2.1, bt346.2.2.2))) = some (r1, r2, r3, r4) := by rw [if_neg (show ¬ (false = true) by decide)] at H; exact H
  replace H := Option.bind_eq_some_iff.mp H
  obtain ⟨⟨t346, t347, t348, t349⟩, A510, H⟩ := H
  replace H : (some (t346, t347, t348, t349)) = some (r1, r2, r3, r4) := H
  have A51 := aM A510
  clear A510
  simp only [Option.some.injEq, Prod.mk.injEq] at H
  obtain ⟨rfl, rfl, rfl, rfl⟩ := H
  have hnb52 := NB334_335.1
  have hnc52 := NB335_334.1
  obtain ⟨z53_0, z53_1, z53_2, z53_3, z53_4, z53_5, z53_6, z53_7, z53_8, z53_9, z53_10, z53_11⟩ := bx6 BK334.1
  go_wp2_with (first | ((with_reducible refine gate_callee (f := 53) rfl ?_); refine goesL_ (some 44) rfl rfl Try.func53 (by kernel_rfl) rfl #[.int .i32 a0_1] rfl (by (try simp only [List.map_toArray, List.map_cons, List.map_nil]); first | done | rfl) ?_; (with_reducible refine (bodkinref19_control.calls a0_1 t346 t347 t348 t349 _ A51.1).mono ?_); rintro e w54 ⟨rfl, hb⟩; refine ⟨_, rfl, ?_⟩; replace BK334 := aM (bkB (g := gb334) (o := .cells #[.int .i64 a0_0, .int .i32 a0_1, .bool a0_2, .bool false, .bool a0_4, .string a0_5] 25 (0, 0)) (by apply_rules (transparency := .reducible) [BK334.1, bkN, bkD, bkA]) hb); replace BK335 := aM (bkB (g := gb335) (o := .cells #[.int .i64 0, .int .i64 0, .string (⟨#[]⟩ : ByteArray), .int .u8 0] 36 (0, 0)) (by apply_rules (transparency := .reducible) [BK335.1, bkN, bkD, bkA]) hb); replace HB := aM (bwP (by apply_rules (transparency := .reducible) [HB.1, bwA, bwN, bwD, bwS, GE334.1, GE335.1]) hb); (try clear hb); (try clear hb2); (try clear hk); (try clear hi); obtain ⟨z55_0, z55_1, z55_2, z55_3, z55_4, z55_5, z55_6, z55_7⟩ := bx4 BK335.1))
  refine bodyPost_ret (results_cell_row rfl _ _ gb335 36 #[.int .i64 t346, .int .i64 t347, .string t348, .int .u8 t349] (0, 0) _ rfl (by (with_reducible repeat first | apply bkN | apply bkD | apply bkA); refine put4 (cs := #[.int .i64 0, .int .i64 0, .string (⟨#[]⟩ : ByteArray), .int .u8 0]) ?_ rfl; (with_reducible repeat first | apply bkN | apply bkD | apply bkA); exact BK335.1) Try.underlying36 rfl (by kernel_rfl)) rfl ?_
  exact ⟨rfl, by apply_rules (transparency := .reducible) [HB.1, bwA, bwN, bwD, bwS, GE334.1, GE335.1]⟩
 rw [if_neg c38] at H
 have c38b0 : (a0_0 == 2) = false := beq_eq_false_iff_ne.mpr c38
 have c38b1 : (a0_0 != 2) = true := bne_iff_ne.mpr c38
 by_cases c56 : a0_0 = 17
 ·rw [if_pos c56] at H
  have c56b0 : (a0_0 == 17) = true := beq_iff_eq.mpr c56
  have c56b1 : (a0_0 != 17) = false := bne_eq_false_iff_eq.mpr c56
  clear c56
  simp only [Option.some.injEq, Prod.mk.injEq] at H
  obtain ⟨rfl, rfl, rfl, rfl⟩ := H
  have hnb57 := NB334_335.1
  have hnc57 := NB335_334.1
  obtain ⟨z58_0, z58_1, z58_2, z58_3, z58_4, z58_5, z58_6, z58_7, z58_8, z58_9, z58_10, z58_11⟩ := bx6 BK334.1
  obtain ⟨z59_0, z59_1, z59_2, z59_3, z59_4, z59_5, z59_6, z59_7⟩ := bx4 BK335.1
  go_wp2
  refine bodyPost_ret (results_cell_row rfl _ _ gb335 36 #[.int .i64 39, .int .i64 0, .string a0_5, .int .u8 0] (0, 0) _ rfl (by (with_reducible repeat first | apply bkN | apply bkD | apply bkA); refine put4 (cs := #[.int .i64 0, .int .i64 0, .string (⟨#[]⟩ : ByteArray), .int .u8 0]) ?_ rfl; (with_reducible repeat first | apply bkN | apply bkD | apply bkA); exact BK335.1) Try.underlying36 rfl (by kernel_rfl)) rfl ?_
  exact ⟨rfl, by apply_rules (transparency := .reducible) [HB.1, bwA, bwN, bwD, bwS, GE334.1, GE335.1]⟩
 rw [if_neg c56] at H
 have c56b0 : (a0_0 == 17) = false := beq_eq_false_iff_ne.mpr c56
 have c56b1 : (a0_0 != 17) = true := bne_iff_ne.mpr c56
 replace H := Option.bind_eq_some_iff.mp H
 obtain ⟨t350, A600, H⟩ := H
 replace H : (some (t350, 0, (⟨#[]⟩ : ByteArray), 0)) = some (r1, r2, r3, r4) := H
 have A60 := aM A600
 clear A600
 simp only [Option.some.injEq, Prod.mk.injEq] at H
 obtain ⟨rfl, rfl, rfl, rfl⟩ := H
 have hnb61 := NB334_335.1
 have hnc61 := NB335_334.1
 obtain ⟨z62_0, z62_1, z62_2, z62_3, z62_4, z62_5, z62_6, z62_7, z62_8, z62_9, z62_10, z62_11⟩ := bx6 BK334.1
 go_wp2_with (first | ((with_reducible refine gate_callee (f := 54) rfl ?_); refine goesL_ (some 65) rfl rfl Try.func54 (by kernel_rfl) rfl #[.int .i64 a0_0, .bool (!x3_1)] rfl (by (try simp only [List.map_toArray, List.map_cons, List.map_nil]); first | done | rfl) ?_; (with_reducible refine (bodkinref19_named.calls kj1 a0_0 (!x3_1) t350 _ A60.1).mono ?_); rintro e w63 ⟨rfl, hb⟩; refine ⟨_, rfl, ?_⟩; replace BK334 := aM (bkB (g := gb334) (o := .cells #[.int .i64 a0_0, .int .i32 a0_1, .bool a0_2, .bool a0_3, .bool a0_4, .string a0_5] 25 (0, 0)) (by apply_rules (transparency := .reducible) [BK334.1, bkN, bkD, bkA]) hb); replace BK335 := aM (bkB (g := gb335) (o := .cells #[.int .i64 0, .int .i64 0, .string (⟨#[]⟩ : ByteArray), .int .u8 0] 36 (0, 0)) (by apply_rules (transparency := .reducible) [BK335.1, bkN, bkD, bkA]) hb); replace HB := aM (bwP (by apply_rules (transparency := .reducible) [HB.1, bwA, bwN, bwD, bwS, GE334.1, GE335.1]) hb); (try clear hb); (try clear hb2); (try clear hk); (try clear hi); obtain ⟨z64_0, z64_1, z64_2, z64_3, z64_4, z64_5, z64_6, z64_7⟩ := bx4 BK335.1))
 refine bodyPost_ret (results_cell_row rfl _ _ gb335 36 #[.int .i64 t350, .int .i64 0, .string (⟨#[]⟩ : ByteArray), .int .u8 0] (0, 0) _ rfl (by (with_reducible repeat first | apply bkN | apply bkD | apply bkA); refine put4 (cs := #[.int .i64 0, .int .i64 0, .string (⟨#[]⟩ : ByteArray), .int .u8 0]) ?_ rfl; (with_reducible repeat first | apply bkN | apply bkD | apply bkA); exact BK335.1) Try.underlying36 rfl (by kernel_rfl)) rfl ?_
 exact ⟨rfl, by apply_rules (transparency := .reducible) [HB.1, bwA, bwN, bwD, bwS, GE334.1, GE335.1]⟩

end Go.Proofs.Ytgkaiagoogjibaa.PBind
