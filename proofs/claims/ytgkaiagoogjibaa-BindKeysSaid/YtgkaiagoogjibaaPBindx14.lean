-- written by pp.py of this session's wip: the kit's print, turned in a few places, over this claim's program
import Derived.Test.YtgkaiagoogjibaaPBindx0
import Derived.Test.YtgkaiagoogjibaaPBindx11
import Derived.Test.YtgkaiagoogjibaaPBindx12
namespace Go.Proofs.Ytgkaiagoogjibaa.PBind
open Go.RowKit Go.Proofs.YtgkaiagoogjibaaW.PrintWords Go.Proofs.YtgkaiagoogjibaaW.PrintLast Go.Proofs.YtgkaiagoogjibaaW.PrintMore
open Go.Proofs.YtgkaiagoogjibaaW.PrintWords renaming blk_drewN → bkN, blk_drew → bkD, blk_alloc → bkA, below_alloc → bwA, pw_below_drewN → bwN, below_drew1 → bwD, below_size → bwZ, below_step → bwP, blk_below → bkB
open Go.Proofs.YtgkaiagoogjibaaW.PrintWords.Aside0 renaming mk → aM
attribute [local go_sem] max2_int min2_int max_two min_two max_three min_three max_four min_four   -- for this text's walks alone
set_option linter.unusedVariables false
set_option linter.unusedSimpArgs false

/-! ### bodkinref19_quoted: function 40 -/
def bodkinref19_quoted.j0 : Nat → Int → Bool → Int → Int → Bool → Bool → Bool → ByteArray → Option (Int × Int × ByteArray × Int)
  | 0, _, _, _, _, _, _, _, _ => none
  | k + 1, x7, x8, x352000, x352001, x352002, x352003, x352004, x352005 => if x8 = true then (if x352002 = true then (some (40, 0, (⟨#[]⟩ : ByteArray), 0)) else ((bodkinref19_typed.f k x352000 x352001 x352002 x352003 x352004 x352005).bind fun t353 => ((bodkinref19_insert.f t353).bind fun bt354 => (some (bt354.1, bt354.2.1, bt354.2.2.1, bt354.2.2.2))))) else (if x7 = 3 then ((bodkinref19_insert.f (⟨#[27]⟩ : ByteArray)).bind fun bt358 => (some (bt358.1, bt358.2.1, bt358.2.2.1, bt358.2.2.2))) else (if x7 = 2 then (if x352001 = 63 then ((bodkinref19_insert.f (⟨#[127]⟩ : ByteArray)).bind fun bt362 => (some (bt362.1, bt362.2.1, bt362.2.2.1, bt362.2.2.2))) else (if x352001 ≥ 64 then (if x352001 ≤ 95 then ((bodkinref19_insert.f (strOfNums (([(wrap32 (x352001 - 64)) % 256] : List Int)))).bind fun bt369 => (some (bt369.1, bt369.2.1, bt369.2.2.1, bt369.2.2.2))) else (some (40, 0, (⟨#[]⟩ : ByteArray), 0))) else (some (40, 0, (⟨#[]⟩ : ByteArray), 0)))) else (some (40, 0, (⟨#[]⟩ : ByteArray), 0))))
def bodkinref19_quoted.f (k : Nat) (a0_0 : Int) (a0_1 : Int) (a0_2 : Bool) (a0_3 : Bool) (a0_4 : Bool) (a0_5 : ByteArray) : Option (Int × Int × ByteArray × Int) := if a0_3 = true then (some (40, 0, (⟨#[]⟩ : ByteArray), 0)) else (if a0_0 = 1 then (bodkinref19_quoted.j0 k a0_0 (a0_0 == 1) a0_0 a0_1 a0_2 a0_3 a0_4 a0_5) else (bodkinref19_quoted.j0 k a0_0 (a0_0 == 4) a0_0 a0_1 a0_2 a0_3 a0_4 a0_5))
theorem bodkinref19_quoted.mono_l : ∀ k, (∀ y0 y1 y2 y3 y4 y5 y6 y7, LeO (bodkinref19_quoted.j0 k y0 y1 y2 y3 y4 y5 y6 y7) (bodkinref19_quoted.j0 (k + 1) y0 y1 y2 y3 y4 y5 y6 y7))
  | 0 => fun _ _ _ _ _ _ _ _ r h => by simp [bodkinref19_quoted.j0] at h
  | k + 1 => by
    have ih0 := bodkinref19_quoted.mono_l k
    · intro y0 y1 y2 y3 y4 y5 y6 y7
      unfold bodkinref19_quoted.j0
      repeat' first
      | (with_reducible exact ih0 _ _ _ _ _ _ _ _)
      | (with_reducible exact bodkinref19_typed.mono _ _ _ _ _ _ _)
      | (with_reducible exact LeO.refl _)
      | (with_reducible exact LeO.none _)
      | (with_reducible refine LeO.ite ?_ ?_)
      | (with_reducible refine LeO.bind ?_ (fun _ => ?_))
      | exact ih0 _ _ _ _ _ _ _ _
      | exact bodkinref19_typed.mono _ _ _ _ _ _ _
      | exact LeO.none _
      | refine LeO.ite ?_ ?_
      | refine LeO.bind ?_ (fun _ => ?_)
theorem bodkinref19_quoted.mono : ∀ a0 a1 a2 a3 a4 a5 k, LeO (bodkinref19_quoted.f k a0 a1 a2 a3 a4 a5) (bodkinref19_quoted.f (k + 1) a0 a1 a2 a3 a4 a5) := by
 intro a0 a1 a2 a3 a4 a5 k
 have ih0 := bodkinref19_quoted.mono_l k
 unfold bodkinref19_quoted.f
 repeat' first
   | (with_reducible exact ih0 _ _ _ _ _ _ _ _)
   | (with_reducible exact bodkinref19_typed.mono _ _ _ _ _ _ _)
   | (with_reducible exact LeO.refl _)
   | (with_reducible exact LeO.none _)
   | (with_reducible refine LeO.ite ?_ ?_)
   | (with_reducible refine LeO.bind ?_ (fun _ => ?_))
   | exact ih0 _ _ _ _ _ _ _ _
   | exact bodkinref19_typed.mono _ _ _ _ _ _ _
   | exact LeO.none _
   | refine LeO.ite ?_ ?_
   | refine LeO.bind ?_ (fun _ => ?_)
set_option maxHeartbeats 8000000 in
set_option maxRecDepth 100000 in
theorem bodkinref19_quoted.calls (k : Nat) (a0_0 : Int) (a0_1 : Int) (a0_2 : Bool) (a0_3 : Bool) (a0_4 : Bool) (a0_5 : ByteArray) (r1 : Int) (r2 : Int) (r3 : ByteArray) (r4 : Int) (w : World) (h : bodkinref19_quoted.f k a0_0 a0_1 a0_2 a0_3 a0_4 a0_5 = some (r1, r2, r3, r4)) :
    Calls Try.prog 40 #[.agg #[.int .i64 a0_0, .int .i32 a0_1, .bool a0_2, .bool a0_3, .bool a0_4, .string a0_5]] w fun e w' => e = .returned (.agg #[.int .i64 r1, .int .i64 r2, .string r3, .int .u8 r4]) ∧ Below w.heap.size w w' := by
 have hu25 := Try.underlying25
 have hu36 := Try.underlying36
 have HB := aM (Below.refl w.heap.size w)
 have H : (if a0_3 = true then (some (40, 0, (⟨#[]⟩ : ByteArray), 0)) else (if a0_0 = 1 then (bodkinref19_quoted.j0 k a0_0 (a0_0 == 1) a0_0 a0_1 a0_2 a0_3 a0_4 a0_5) else (bodkinref19_quoted.j0 k a0_0 (a0_0 == 4) a0_0 a0_1 a0_2 a0_3 a0_4 a0_5))) = some (r1, r2, r3, r4) := h
 clear h
 by_cases c2 : a0_3 = true
 ·subst c2
  replace H : (some (40, 0, (⟨#[]⟩ : ByteArray), 0)) = some (r1, r2, r3, r4) := by rw [if_pos rfl] at H; exact H
  simp only [Option.some.injEq, Prod.mk.injEq] at H
  obtain ⟨rfl, rfl, rfl, rfl⟩ := H
  go_enter Try.func40, Try.ntmps40
  go_wp2_with (first | ((with_reducible refine gate_dst (N := 1) rfl ?_); refine box_event ?hg (N := 1) ?hd (cs := #[.int .i64 a0_0, .int .i32 a0_1, .bool a0_2, .bool true, .bool a0_4, .string a0_5]) (t := 25) ?hr ?_; (case hd => rfl); (case hg => rfl); (case hr => first | (go_simp; done) | (go_simp; rfl)); intro gb351 hg w3 hbox hb; have BK351 := aM (hbox); have GW351 := aM ((by rw [hg]; exact (bwZ (by apply_rules (transparency := .reducible) [HB.1, bwA, bwN, bwD])) : w.heap.size ≤ gb351)); have GE351 := aM ((by rw [hg]; exact (bwZ (by apply_rules (transparency := .reducible) [HB.1, bwA, bwN, bwD])) : w.heap.size ≤ gb351)); replace HB := aM (bwP (by apply_rules (transparency := .reducible) [HB.1, bwA, bwN, bwD]) hb); clear hb hbox hg) | ((with_reducible refine gate_dst (N := 2) rfl ?_); refine box_event ?hg (N := 2) ?hd (cs := #[.int .i64 0, .int .i64 0, .string (⟨#[]⟩ : ByteArray), .int .u8 0]) (t := 36) ?hr ?_; (case hd => rfl); (case hg => rfl); (case hr => first | (go_simp; done) | (go_simp; rfl)); intro gb352 hg w4 hbox hb; have BK352 := aM (hbox); have GW352 := aM ((by rw [hg]; exact (bwZ (by apply_rules (transparency := .reducible) [HB.1, bwA, bwN, bwD, bwS, GE351.1])) : w.heap.size ≤ gb352)); have GE352 := aM ((by rw [hg]; exact (bwZ (by apply_rules (transparency := .reducible) [HB.1, bwA, bwN, bwD, bwS, GE351.1])) : w.heap.size ≤ gb352)); replace HB := aM (bwP (by apply_rules (transparency := .reducible) [HB.1, bwA, bwN, bwD, bwS, GE351.1]) hb); have NB351_352 := aM ((by rw [hg]; exact Nat.ne_of_lt (blk_lt (g := gb351) (o := .cells #[.int .i64 a0_0, .int .i32 a0_1, .bool a0_2, .bool true, .bool a0_4, .string a0_5] 25 (0, 0)) (by apply_rules (transparency := .reducible) [BK351.1, bkN, bkD, bkA])) : gb351 ≠ gb352)); have NB352_351 := aM ((by rw [hg]; exact Nat.ne_of_gt (blk_lt (g := gb351) (o := .cells #[.int .i64 a0_0, .int .i32 a0_1, .bool a0_2, .bool true, .bool a0_4, .string a0_5] 25 (0, 0)) (by apply_rules (transparency := .reducible) [BK351.1, bkN, bkD, bkA])) : gb352 ≠ gb351)); replace BK351 := aM (bkB (g := gb351) (o := .cells #[.int .i64 a0_0, .int .i32 a0_1, .bool a0_2, .bool true, .bool a0_4, .string a0_5] 25 (0, 0)) (by apply_rules (transparency := .reducible) [BK351.1, bkN, bkD, bkA]) hb); clear hb hbox hg; have hnb5 := NB351_352.1; have hnc5 := NB352_351.1; obtain ⟨z6_0, z6_1, z6_2, z6_3, z6_4, z6_5, z6_6, z6_7, z6_8, z6_9, z6_10, z6_11⟩ := bx6 BK351.1; obtain ⟨z7_0, z7_1, z7_2, z7_3, z7_4, z7_5, z7_6, z7_7⟩ := bx4 BK352.1))
  refine bodyPost_ret (results_cell_row rfl _ _ gb352 36 #[.int .i64 40, .int .i64 0, .string (⟨#[]⟩ : ByteArray), .int .u8 0] (0, 0) _ rfl (by (with_reducible repeat first | apply bkN | apply bkD | apply bkA); refine put4 (cs := #[.int .i64 0, .int .i64 0, .string (⟨#[]⟩ : ByteArray), .int .u8 0]) ?_ rfl; (with_reducible repeat first | apply bkN | apply bkD | apply bkA); exact BK352.1) Try.underlying36 rfl (by kernel_rfl)) rfl ?_
  exact ⟨by first | rfl | (simp [errW_none, errW_some] <;> rfl) | (simp [*, errW_none, errW_some] <;> rfl), by apply_rules (transparency := .reducible) [HB.1, bwA, bwN, bwD, bwS, GE351.1, GE352.1]⟩
 replace c2 := Bool.eq_false_iff.mpr c2
 subst c2
 replace H : (if a0_0 = 1 then (bodkinref19_quoted.j0 k a0_0 (a0_0 == 1) a0_0 a0_1 a0_2 false a0_4 a0_5) else (bodkinref19_quoted.j0 k a0_0 (a0_0 == 4) a0_0 a0_1 a0_2 false a0_4 a0_5)) = some (r1, r2, r3, r4) := by rw [if_neg (show ¬ (false = true) by decide)] at H; exact H
 have HC8 := aM H
 clear H
 go_enter Try.func40, Try.ntmps40
 go_upto_if 8 with (first | ((with_reducible refine gate_dst (N := 1) rfl ?_); refine box_event ?hg (N := 1) ?hd (cs := #[.int .i64 a0_0, .int .i32 a0_1, .bool a0_2, .bool false, .bool a0_4, .string a0_5]) (t := 25) ?hr ?_; (case hd => rfl); (case hg => rfl); (case hr => first | (go_simp; done) | (go_simp; rfl)); intro gb351 hg w9 hbox hb; have BK351 := aM (hbox); have GW351 := aM ((by rw [hg]; exact (bwZ (by apply_rules (transparency := .reducible) [HB.1, bwA, bwN, bwD])) : w.heap.size ≤ gb351)); have GE351 := aM ((by rw [hg]; exact (bwZ (by apply_rules (transparency := .reducible) [HB.1, bwA, bwN, bwD])) : w.heap.size ≤ gb351)); replace HB := aM (bwP (by apply_rules (transparency := .reducible) [HB.1, bwA, bwN, bwD]) hb); clear hb hbox hg) | ((with_reducible refine gate_dst (N := 2) rfl ?_); refine box_event ?hg (N := 2) ?hd (cs := #[.int .i64 0, .int .i64 0, .string (⟨#[]⟩ : ByteArray), .int .u8 0]) (t := 36) ?hr ?_; (case hd => rfl); (case hg => rfl); (case hr => first | (go_simp; done) | (go_simp; rfl)); intro gb352 hg w10 hbox hb; have BK352 := aM (hbox); have GW352 := aM ((by rw [hg]; exact (bwZ (by apply_rules (transparency := .reducible) [HB.1, bwA, bwN, bwD, bwS, GE351.1])) : w.heap.size ≤ gb352)); have GE352 := aM ((by rw [hg]; exact (bwZ (by apply_rules (transparency := .reducible) [HB.1, bwA, bwN, bwD, bwS, GE351.1])) : w.heap.size ≤ gb352)); replace HB := aM (bwP (by apply_rules (transparency := .reducible) [HB.1, bwA, bwN, bwD, bwS, GE351.1]) hb); have NB351_352 := aM ((by rw [hg]; exact Nat.ne_of_lt (blk_lt (g := gb351) (o := .cells #[.int .i64 a0_0, .int .i32 a0_1, .bool a0_2, .bool false, .bool a0_4, .string a0_5] 25 (0, 0)) (by apply_rules (transparency := .reducible) [BK351.1, bkN, bkD, bkA])) : gb351 ≠ gb352)); have NB352_351 := aM ((by rw [hg]; exact Nat.ne_of_gt (blk_lt (g := gb351) (o := .cells #[.int .i64 a0_0, .int .i32 a0_1, .bool a0_2, .bool false, .bool a0_4, .string a0_5] 25 (0, 0)) (by apply_rules (transparency := .reducible) [BK351.1, bkN, bkD, bkA])) : gb352 ≠ gb351)); replace BK351 := aM (bkB (g := gb351) (o := .cells #[.int .i64 a0_0, .int .i32 a0_1, .bool a0_2, .bool false, .bool a0_4, .string a0_5] 25 (0, 0)) (by apply_rules (transparency := .reducible) [BK351.1, bkN, bkD, bkA]) hb); clear hb hbox hg; have hnb11 := NB351_352.1; have hnc11 := NB352_351.1; obtain ⟨z12_0, z12_1, z12_2, z12_3, z12_4, z12_5, z12_6, z12_7, z12_8, z12_9, z12_10, z12_11⟩ := bx6 BK351.1))
 (try simp only [Act.put, List.setIfInBounds_toArray, List.set_cons_zero, List.set_cons_succ])
 go_cut [8] (fun v8 wc => ∃ (kq : Nat) (x8_7 : Bool), v8 = .bool x8_7 ∧ Aside0 (bodkinref19_quoted.j0 kq a0_0 x8_7 a0_0 a0_1 a0_2 false a0_4 a0_5 = some (r1, r2, r3, r4)) ∧ Aside0 (kq ≤ k) ∧ Aside0 (wc.heap[gb351]? = some (.cells #[.int .i64 a0_0, .int .i32 a0_1, .bool a0_2, .bool false, .bool a0_4, .string a0_5] 25 (0, 0))) ∧ Aside0 (wc.heap[gb352]? = some (.cells #[.int .i64 0, .int .i64 0, .string (⟨#[]⟩ : ByteArray), .int .u8 0] 36 (0, 0))) ∧ Aside0 (Below w.heap.size w wc))
 case first =>
  have H := HC8.1
  clear HC8
  by_cases c13 : a0_0 = 1
  ·rw [if_pos c13] at H
   have c13b0 : (a0_0 == 1) = true := beq_iff_eq.mpr c13
   have c13b1 : (a0_0 != 1) = false := bne_eq_false_iff_eq.mpr c13
   clear c13
   (first | rw [c13b0] | (simp only [i64_w, i32_w]; rw [c13b0]) | skip)
   have H' := aM H
   clear H
   go_wp2
   go_meet
   case rel => exact ⟨_, ((a0_0 == 1)), (by first | rfl | (simp; done) | (simp [*]; done)), H', ⟨by first | omega | exact Nat.le_refl _⟩, ⟨by apply_rules (transparency := .reducible) [BK351.1, bkN, bkD, bkA]⟩, ⟨by apply_rules (transparency := .reducible) [BK352.1, bkN, bkD, bkA]⟩, ⟨by apply_rules (transparency := .reducible) [HB.1, bwA, bwN, bwD, bwS, GE351.1, GE352.1]⟩⟩
  rw [if_neg c13] at H
  have c13b0 : (a0_0 == 1) = false := beq_eq_false_iff_ne.mpr c13
  have c13b1 : (a0_0 != 1) = true := bne_iff_ne.mpr c13
  (first | rw [c13b0] | (simp only [i64_w, i32_w]; rw [c13b0]) | skip)
  have H' := aM H
  clear H
  go_wp2
  go_meet
  case rel => exact ⟨_, ((a0_0 == 4)), (by first | rfl | (simp; done) | (simp [*]; done)), H', ⟨by first | omega | exact Nat.le_refl _⟩, ⟨by apply_rules (transparency := .reducible) [BK351.1, bkN, bkD, bkA]⟩, ⟨by apply_rules (transparency := .reducible) [BK352.1, bkN, bkD, bkA]⟩, ⟨by apply_rules (transparency := .reducible) [HB.1, bwA, bwN, bwD, bwS, GE351.1, GE352.1]⟩⟩
 clear HC8
 try clear c2
 try clear z12_0 z12_1 z12_2 z12_3 z12_4 z12_5 z12_6 z12_7 z12_8 z12_9 z12_10 z12_11
 obtain ⟨kq, x8_7, rfl, HA, HJ7, BK351, BK352, HB⟩ := hcut
 obtain _ | kj7 := kq
 ·exact absurd HA.1 (by simp [bodkinref19_quoted.j0])
 have H := HA.1
 clear HA
 simp only [bodkinref19_quoted.j0] at H
 by_cases c14 : x8_7 = true
 ·subst c14
  replace H : (if a0_2 = true then (some (40, 0, (⟨#[]⟩ : ByteArray), 0)) else ((bodkinref19_typed.f kj7 a0_0 a0_1 a0_2 false a0_4 a0_5).bind fun t353 => ((bodkinref19_insert.f t353).bind fun bt354 => (some (bt354.1, bt354.2.1, bt354.2.2.1, bt354.2.2.2))))) = some (r1, r2, r3, r4) := by rw [if_pos rfl] at H; exact H
  by_cases c15 : a0_2 = true
  ·subst c15
   replace H : (some (40, 0, (⟨#[]⟩ : ByteArray), 0)) = some (r1, r2, r3, r4) := by rw [if_pos rfl] at H; exact H
   simp only [Option.some.injEq, Prod.mk.injEq] at H
   obtain ⟨rfl, rfl, rfl, rfl⟩ := H
   have hnb16 := NB351_352.1
   have hnc16 := NB352_351.1
   obtain ⟨z17_0, z17_1, z17_2, z17_3, z17_4, z17_5, z17_6, z17_7, z17_8, z17_9, z17_10, z17_11⟩ := bx6 BK351.1
   obtain ⟨z18_0, z18_1, z18_2, z18_3, z18_4, z18_5, z18_6, z18_7⟩ := bx4 BK352.1
   go_wp2
   refine bodyPost_ret (results_cell_row rfl _ _ gb352 36 #[.int .i64 40, .int .i64 0, .string (⟨#[]⟩ : ByteArray), .int .u8 0] (0, 0) _ rfl (by (with_reducible repeat first | apply bkN | apply bkD | apply bkA); refine put4 (cs := #[.int .i64 0, .int .i64 0, .string (⟨#[]⟩ : ByteArray), .int .u8 0]) ?_ rfl; (with_reducible repeat first | apply bkN | apply bkD | apply bkA); exact BK352.1) Try.underlying36 rfl (by kernel_rfl)) rfl ?_
   exact ⟨by first | rfl | (simp [errW_none, errW_some] <;> rfl) | (simp [*, errW_none, errW_some] <;> rfl), by apply_rules (transparency := .reducible) [HB.1, bwA, bwN, bwD, bwS, GE351.1, GE352.1]⟩
  replace c15 := Bool.eq_false_iff.mpr c15
  subst c15
  replace H : ((bodkinref19_typed.f kj7 a0_0 a0_1 false false a0_4 a0_5).bind fun t353 => ((bodkinref19_insert.f t353).bind fun bt354 => (some (bt354.1, bt354.2.1, bt354.2.2.1, bt354.2.2.2)))) = some (r1, r2, r3, r4) := by rw [if_neg (show ¬ (false = true) by decide)] at H; exact H
  replace H := Option.bind_eq_some_iff.mp H
  obtain ⟨t353, A190, H⟩ := H
  replace H : ((bodkinref19_insert.f t353).bind fun bt354 => (some (bt354.1, bt354.2.1, bt354.2.2.1, bt354.2.2.2))) = some (r1, r2, r3, r4) := H
  have A19 := aM A190
  clear A190
  replace H := Option.bind_eq_some_iff.mp H
  obtain ⟨⟨t354, t355, t356, t357⟩, A200, H⟩ := H
  replace H : (some (t354, t355, t356, t357)) = some (r1, r2, r3, r4) := H
  have A20 := aM A200
  clear A200
  simp only [Option.some.injEq, Prod.mk.injEq] at H
  obtain ⟨rfl, rfl, rfl, rfl⟩ := H
  have hnb21 := NB351_352.1
  have hnc21 := NB352_351.1
  obtain ⟨z22_0, z22_1, z22_2, z22_3, z22_4, z22_5, z22_6, z22_7, z22_8, z22_9, z22_10, z22_11⟩ := bx6 BK351.1
  go_wp2_with (first | ((with_reducible refine gate_callee (f := 51) rfl ?_); refine goesL_ (some 15) rfl rfl Try.func51 (by kernel_rfl) rfl #[.agg #[.int .i64 a0_0, .int .i32 a0_1, .bool false, .bool false, .bool a0_4, .string a0_5]] rfl (by (try simp only [List.map_toArray, List.map_cons, List.map_nil]); first | done | rfl | (simp only [List.length_drop, List.length_take]; rfl)) ?_; (with_reducible refine (bodkinref19_typed.calls kj7 a0_0 a0_1 false false a0_4 a0_5 t353 _ A19.1).mono ?_); rintro e w23 ⟨rfl, hb⟩; refine ⟨_, rfl, ?_⟩; replace BK351 := aM (bkB (g := gb351) (o := .cells #[.int .i64 a0_0, .int .i32 a0_1, .bool false, .bool false, .bool a0_4, .string a0_5] 25 (0, 0)) (by apply_rules (transparency := .reducible) [BK351.1, bkN, bkD, bkA]) hb); replace BK352 := aM (bkB (g := gb352) (o := .cells #[.int .i64 0, .int .i64 0, .string (⟨#[]⟩ : ByteArray), .int .u8 0] 36 (0, 0)) (by apply_rules (transparency := .reducible) [BK352.1, bkN, bkD, bkA]) hb); replace HB := aM (bwP (by apply_rules (transparency := .reducible) [HB.1, bwA, bwN, bwD, bwS, GE351.1, GE352.1]) hb); (try clear hb); (try clear hb2); (try clear hk); (try clear hi)) | ((with_reducible refine gate_callee (f := 50) rfl ?_); refine goesL_ (some 16) rfl rfl Try.func50 (by kernel_rfl) rfl #[.string t353] rfl (by (try simp only [List.map_toArray, List.map_cons, List.map_nil]); first | done | rfl | (simp only [List.length_drop, List.length_take]; rfl)) ?_; (with_reducible refine (bodkinref19_insert.calls t353 t354 t355 t356 t357 _ A20.1).mono ?_); rintro e w24 ⟨rfl, hb⟩; refine ⟨_, rfl, ?_⟩; replace BK351 := aM (bkB (g := gb351) (o := .cells #[.int .i64 a0_0, .int .i32 a0_1, .bool false, .bool false, .bool a0_4, .string a0_5] 25 (0, 0)) (by apply_rules (transparency := .reducible) [BK351.1, bkN, bkD, bkA]) hb); replace BK352 := aM (bkB (g := gb352) (o := .cells #[.int .i64 0, .int .i64 0, .string (⟨#[]⟩ : ByteArray), .int .u8 0] 36 (0, 0)) (by apply_rules (transparency := .reducible) [BK352.1, bkN, bkD, bkA]) hb); replace HB := aM (bwP (by apply_rules (transparency := .reducible) [HB.1, bwA, bwN, bwD, bwS, GE351.1, GE352.1]) hb); (try clear hb); (try clear hb2); (try clear hk); (try clear hi); obtain ⟨z25_0, z25_1, z25_2, z25_3, z25_4, z25_5, z25_6, z25_7⟩ := bx4 BK352.1))
  refine bodyPost_ret (results_cell_row rfl _ _ gb352 36 #[.int .i64 t354, .int .i64 t355, .string t356, .int .u8 t357] (0, 0) _ rfl (by (with_reducible repeat first | apply bkN | apply bkD | apply bkA); refine put4 (cs := #[.int .i64 0, .int .i64 0, .string (⟨#[]⟩ : ByteArray), .int .u8 0]) ?_ rfl; (with_reducible repeat first | apply bkN | apply bkD | apply bkA); exact BK352.1) Try.underlying36 rfl (by kernel_rfl)) rfl ?_
  exact ⟨by first | rfl | (simp [errW_none, errW_some] <;> rfl) | (simp [*, errW_none, errW_some] <;> rfl), by apply_rules (transparency := .reducible) [HB.1, bwA, bwN, bwD, bwS, GE351.1, GE352.1]⟩
 replace c14 := Bool.eq_false_iff.mpr c14
 subst c14
 replace H : (if a0_0 = 3 then ((bodkinref19_insert.f (⟨#[27]⟩ : ByteArray)).bind fun bt358 => (some (bt358.1, bt358.2.1, bt358.2.2.1, bt358.2.2.2))) else (if a0_0 = 2 then (if a0_1 = 63 then ((bodkinref19_insert.f (⟨#[127]⟩ : ByteArray)).bind fun bt362 => (some (bt362.1, bt362.2.1, bt362.2.2.1, bt362.2.2.2))) else (if a0_1 ≥ 64 then (if a0_1 ≤ 95 then ((bodkinref19_insert.f (strOfNums (([(wrap32 (a0_1 - 64)) % 256] : List Int)))).bind fun bt369 => (some (bt369.1, bt369.2.1, bt369.2.2.1, bt369.2.2.2))) else (some (40, 0, (⟨#[]⟩ : ByteArray), 0))) else (some (40, 0, (⟨#[]⟩ : ByteArray), 0)))) else (some (40, 0, (⟨#[]⟩ : ByteArray), 0)))) = some (r1, r2, r3, r4) := by rw [if_neg (show ¬ (false = true) by decide)] at H; exact H
 by_cases c26 : a0_0 = 3
 ·rw [if_pos c26] at H
  have c26b0 : (a0_0 == 3) = true := beq_iff_eq.mpr c26
  have c26b1 : (a0_0 != 3) = false := bne_eq_false_iff_eq.mpr c26
  clear c26
  replace H := Option.bind_eq_some_iff.mp H
  obtain ⟨⟨t358, t359, t360, t361⟩, A270, H⟩ := H
  replace H : (some (t358, t359, t360, t361)) = some (r1, r2, r3, r4) := H
  have A27 := aM A270
  clear A270
  simp only [Option.some.injEq, Prod.mk.injEq] at H
  obtain ⟨rfl, rfl, rfl, rfl⟩ := H
  go_wp2_with (first | ((with_reducible refine gate_callee (f := 50) rfl ?_); refine goesL_ (some 19) rfl rfl Try.func50 (by kernel_rfl) rfl #[.string (⟨#[27]⟩ : ByteArray)] rfl (by (try simp only [List.map_toArray, List.map_cons, List.map_nil]); first | done | rfl | (simp only [List.length_drop, List.length_take]; rfl)) ?_; (with_reducible refine (bodkinref19_insert.calls (⟨#[27]⟩ : ByteArray) t358 t359 t360 t361 _ A27.1).mono ?_); rintro e w28 ⟨rfl, hb⟩; refine ⟨_, rfl, ?_⟩; replace BK351 := aM (bkB (g := gb351) (o := .cells #[.int .i64 a0_0, .int .i32 a0_1, .bool a0_2, .bool false, .bool a0_4, .string a0_5] 25 (0, 0)) (by apply_rules (transparency := .reducible) [BK351.1, bkN, bkD, bkA]) hb); replace BK352 := aM (bkB (g := gb352) (o := .cells #[.int .i64 0, .int .i64 0, .string (⟨#[]⟩ : ByteArray), .int .u8 0] 36 (0, 0)) (by apply_rules (transparency := .reducible) [BK352.1, bkN, bkD, bkA]) hb); replace HB := aM (bwP (by apply_rules (transparency := .reducible) [HB.1, bwA, bwN, bwD, bwS, GE351.1, GE352.1]) hb); (try clear hb); (try clear hb2); (try clear hk); (try clear hi); have hnb29 := NB352_351.1; have hnc29 := NB351_352.1; obtain ⟨z30_0, z30_1, z30_2, z30_3, z30_4, z30_5, z30_6, z30_7⟩ := bx4 BK352.1))
  refine bodyPost_ret (results_cell_row rfl _ _ gb352 36 #[.int .i64 t358, .int .i64 t359, .string t360, .int .u8 t361] (0, 0) _ rfl (by (with_reducible repeat first | apply bkN | apply bkD | apply bkA); refine put4 (cs := #[.int .i64 0, .int .i64 0, .string (⟨#[]⟩ : ByteArray), .int .u8 0]) ?_ rfl; (with_reducible repeat first | apply bkN | apply bkD | apply bkA); exact BK352.1) Try.underlying36 rfl (by kernel_rfl)) rfl ?_
  exact ⟨by first | rfl | (simp [errW_none, errW_some] <;> rfl) | (simp [*, errW_none, errW_some] <;> rfl), by apply_rules (transparency := .reducible) [HB.1, bwA, bwN, bwD, bwS, GE351.1, GE352.1]⟩
 rw [if_neg c26] at H
 have c26b0 : (a0_0 == 3) = false := beq_eq_false_iff_ne.mpr c26
 have c26b1 : (a0_0 != 3) = true := bne_iff_ne.mpr c26
 by_cases c31 : a0_0 = 2
 ·rw [if_pos c31] at H
  have c31b0 : (a0_0 == 2) = true := beq_iff_eq.mpr c31
  have c31b1 : (a0_0 != 2) = false := bne_eq_false_iff_eq.mpr c31
  clear c31
  by_cases c32 : a0_1 = 63
  ·rw [if_pos c32] at H
   have c32b0 : (a0_1 == 63) = true := beq_iff_eq.mpr c32
   have c32b1 : (a0_1 != 63) = false := bne_eq_false_iff_eq.mpr c32
   clear c32
   replace H := Option.bind_eq_some_iff.mp H
   obtain ⟨⟨t362, t363, t364, t365⟩, A330, H⟩ := H
   replace H : (some (t362, t363, t364, t365)) = some (r1, r2, r3, r4) := H
   have A33 := aM A330
   clear A330
   simp only [Option.some.injEq, Prod.mk.injEq] at H
   obtain ⟨rfl, rfl, rfl, rfl⟩ := H
   have hnb34 := NB351_352.1
   have hnc34 := NB352_351.1
   obtain ⟨z35_0, z35_1, z35_2, z35_3, z35_4, z35_5, z35_6, z35_7, z35_8, z35_9, z35_10, z35_11⟩ := bx6 BK351.1
   go_wp2_with (first | ((with_reducible refine gate_callee (f := 50) rfl ?_); refine goesL_ (some 25) rfl rfl Try.func50 (by kernel_rfl) rfl #[.string (⟨#[127]⟩ : ByteArray)] rfl (by (try simp only [List.map_toArray, List.map_cons, List.map_nil]); first | done | rfl | (simp only [List.length_drop, List.length_take]; rfl)) ?_; (with_reducible refine (bodkinref19_insert.calls (⟨#[127]⟩ : ByteArray) t362 t363 t364 t365 _ A33.1).mono ?_); rintro e w36 ⟨rfl, hb⟩; refine ⟨_, rfl, ?_⟩; replace BK351 := aM (bkB (g := gb351) (o := .cells #[.int .i64 a0_0, .int .i32 a0_1, .bool a0_2, .bool false, .bool a0_4, .string a0_5] 25 (0, 0)) (by apply_rules (transparency := .reducible) [BK351.1, bkN, bkD, bkA]) hb); replace BK352 := aM (bkB (g := gb352) (o := .cells #[.int .i64 0, .int .i64 0, .string (⟨#[]⟩ : ByteArray), .int .u8 0] 36 (0, 0)) (by apply_rules (transparency := .reducible) [BK352.1, bkN, bkD, bkA]) hb); replace HB := aM (bwP (by apply_rules (transparency := .reducible) [HB.1, bwA, bwN, bwD, bwS, GE351.1, GE352.1]) hb); (try clear hb); (try clear hb2); (try clear hk); (try clear hi); obtain ⟨z37_0, z37_1, z37_2, z37_3, z37_4, z37_5, z37_6, z37_7⟩ := bx4 BK352.1))
   refine bodyPost_ret (results_cell_row rfl _ _ gb352 36 #[.int .i64 t362, .int .i64 t363, .string t364, .int .u8 t365] (0, 0) _ rfl (by (with_reducible repeat first | apply bkN | apply bkD | apply bkA); refine put4 (cs := #[.int .i64 0, .int .i64 0, .string (⟨#[]⟩ : ByteArray), .int .u8 0]) ?_ rfl; (with_reducible repeat first | apply bkN | apply bkD | apply bkA); exact BK352.1) Try.underlying36 rfl (by kernel_rfl)) rfl ?_
   exact ⟨by first | rfl | (simp [errW_none, errW_some] <;> rfl) | (simp [*, errW_none, errW_some] <;> rfl), by apply_rules (transparency := .reducible) [HB.1, bwA, bwN, bwD, bwS, GE351.1, GE352.1]⟩
  rw [if_neg c32] at H
  have c32b0 : (a0_1 == 63) = false := beq_eq_false_iff_ne.mpr c32
  have c32b1 : (a0_1 != 63) = true := bne_iff_ne.mpr c32
  by_cases c38 : a0_1 ≥ 64
  ·rw [if_pos c38] at H
   have c38b0 : decide (64 ≤ a0_1) = true := decide_eq_true c38
   clear c38
   by_cases c39 : a0_1 ≤ 95
   ·rw [if_pos c39] at H
    have c39b0 : decide (a0_1 ≤ 95) = true := decide_eq_true c39
    clear c39
    obtain ⟨y366, hy366⟩ : ∃ y_ : List Int, y_ = (([(wrap32 (a0_1 - 64)) % 256] : List Int)) := ⟨_, rfl⟩
    replace H : ((bodkinref19_insert.f (strOfNums y366)).bind fun bt369 => (some (bt369.1, bt369.2.1, bt369.2.2.1, bt369.2.2.2))) = some (r1, r2, r3, r4) := by first | (rw [hy366]; with_reducible exact H) | (have H2_ := (Option.bind_some _ _).symm.trans H; rw [hy366]; with_reducible exact H2_) | (have H2_ := (Option.bind_some _ _).symm.trans H; with_reducible exact H2_) | with_reducible exact H | (rw [hy366]; exact H) | exact H
    have Ny366 := aM hy366
    clear hy366
    replace H := Option.bind_eq_some_iff.mp H
    obtain ⟨⟨t369, t370, t371, t372⟩, A400, H⟩ := H
    replace H : (some (t369, t370, t371, t372)) = some (r1, r2, r3, r4) := H
    have A40 := aM A400
    clear A400
    simp only [Option.some.injEq, Prod.mk.injEq] at H
    obtain ⟨rfl, rfl, rfl, rfl⟩ := H
    have hnb41 := NB351_352.1
    have hnc41 := NB352_351.1
    obtain ⟨z42_0, z42_1, z42_2, z42_3, z42_4, z42_5, z42_6, z42_7, z42_8, z42_9, z42_10, z42_11⟩ := bx6 BK351.1
    go_wp2_with (first | ((with_reducible refine gate_dst (N := 38) rfl ?_); refine Kd.R_lit (Kd.int .u8) _ 5 ?hg (N := 38) ?hd (xs := ([(wrap32 (a0_1 - 64)) % 256] : List Int)) (inner := [.int .u8 ((wrap32 (a0_1 - 64)) % 256)]) (ok := fun _ => True) (okp := fun _ => True) ?hr ?hp (fun _ hk => hk) trivial (Below.refl _ _) (Nat.le_refl _) (by simp) ?_; (case hd => rfl); (case hg => rfl); (case hr => first | (go_simp; done) | (go_simp; rfl)); (case hp => exact (Reps.one (show Kd.M (Kd.int .u8) _ _ _ ((wrap32 (a0_1 - 64)) % 256) [.int .u8 ((wrap32 (a0_1 - 64)) % 256)] from rfl) (Reps.none _ _))); intro v367 w43 ho44 hb hg_ hnew_; clear hg_ hnew_; (first | rw [← Ny366.1] at ho44 | (simp only [Int.reduceToNat] at ho44; rw [← Ny366.1] at ho44)); have HO368 := aM (Kd.R_lower ho44 (bwZ (by apply_rules (transparency := .reducible) [HB.1, bwA, bwN, bwD, bwS, GE351.1, GE352.1]))); replace BK351 := aM (bkB (g := gb351) (o := .cells #[.int .i64 a0_0, .int .i32 a0_1, .bool a0_2, .bool false, .bool a0_4, .string a0_5] 25 (0, 0)) (by apply_rules (transparency := .reducible) [BK351.1, bkN, bkD, bkA]) hb); replace BK352 := aM (bkB (g := gb352) (o := .cells #[.int .i64 0, .int .i64 0, .string (⟨#[]⟩ : ByteArray), .int .u8 0] 36 (0, 0)) (by apply_rules (transparency := .reducible) [BK352.1, bkN, bkD, bkA]) hb); replace HB := aM (bwP (by apply_rules (transparency := .reducible) [HB.1, bwA, bwN, bwD, bwS, GE351.1, GE352.1]) hb); clear hb ho44; have hcv45 := own_string (P := Try.prog) Try.underlying45 Try.underlying5 Try.underlying9 (Kd.own_of_R HO368.1)) | ((with_reducible refine gate_callee (f := 50) rfl ?_); refine goesL_ (some 40) rfl rfl Try.func50 (by kernel_rfl) rfl #[.string (strOfNums y366)] rfl (by (try simp only [List.map_toArray, List.map_cons, List.map_nil]); first | done | rfl | (simp only [List.length_drop, List.length_take]; rfl)) ?_; (with_reducible refine (bodkinref19_insert.calls (strOfNums y366) t369 t370 t371 t372 _ A40.1).mono ?_); rintro e w46 ⟨rfl, hb⟩; refine ⟨_, rfl, ?_⟩; replace HO368 := aM (Kd.R_below (by (with_reducible repeat first | apply Kd.R_alloc | apply Kd.R_drewN | apply Kd.R_drew); exact HO368.1) hb); replace BK351 := aM (bkB (g := gb351) (o := .cells #[.int .i64 a0_0, .int .i32 a0_1, .bool a0_2, .bool false, .bool a0_4, .string a0_5] 25 (0, 0)) (by apply_rules (transparency := .reducible) [BK351.1, bkN, bkD, bkA]) hb); replace BK352 := aM (bkB (g := gb352) (o := .cells #[.int .i64 0, .int .i64 0, .string (⟨#[]⟩ : ByteArray), .int .u8 0] 36 (0, 0)) (by apply_rules (transparency := .reducible) [BK352.1, bkN, bkD, bkA]) hb); replace HB := aM (bwP (by apply_rules (transparency := .reducible) [HB.1, bwA, bwN, bwD, bwS, GE351.1, GE352.1]) hb); (try clear hb); (try clear hb2); (try clear hk); (try clear hi); obtain ⟨z47_0, z47_1, z47_2, z47_3, z47_4, z47_5, z47_6, z47_7⟩ := bx4 BK352.1))
    refine bodyPost_ret (results_cell_row rfl _ _ gb352 36 #[.int .i64 t369, .int .i64 t370, .string t371, .int .u8 t372] (0, 0) _ rfl (by (with_reducible repeat first | apply bkN | apply bkD | apply bkA); refine put4 (cs := #[.int .i64 0, .int .i64 0, .string (⟨#[]⟩ : ByteArray), .int .u8 0]) ?_ rfl; (with_reducible repeat first | apply bkN | apply bkD | apply bkA); exact BK352.1) Try.underlying36 rfl (by kernel_rfl)) rfl ?_
    exact ⟨by first | rfl | (simp [errW_none, errW_some] <;> rfl) | (simp [*, errW_none, errW_some] <;> rfl), by apply_rules (transparency := .reducible) [HB.1, bwA, bwN, bwD, bwS, GE351.1, GE352.1]⟩
   rw [if_neg c39] at H
   have c39b0 : decide (a0_1 ≤ 95) = false := decide_eq_false c39
   clear c39
   simp only [Option.some.injEq, Prod.mk.injEq] at H
   obtain ⟨rfl, rfl, rfl, rfl⟩ := H
   have hnb48 := NB351_352.1
   have hnc48 := NB352_351.1
   obtain ⟨z49_0, z49_1, z49_2, z49_3, z49_4, z49_5, z49_6, z49_7, z49_8, z49_9, z49_10, z49_11⟩ := bx6 BK351.1
   obtain ⟨z50_0, z50_1, z50_2, z50_3, z50_4, z50_5, z50_6, z50_7⟩ := bx4 BK352.1
   go_wp2
   refine bodyPost_ret (results_cell_row rfl _ _ gb352 36 #[.int .i64 40, .int .i64 0, .string (⟨#[]⟩ : ByteArray), .int .u8 0] (0, 0) _ rfl (by (with_reducible repeat first | apply bkN | apply bkD | apply bkA); refine put4 (cs := #[.int .i64 0, .int .i64 0, .string (⟨#[]⟩ : ByteArray), .int .u8 0]) ?_ rfl; (with_reducible repeat first | apply bkN | apply bkD | apply bkA); exact BK352.1) Try.underlying36 rfl (by kernel_rfl)) rfl ?_
   exact ⟨by first | rfl | (simp [errW_none, errW_some] <;> rfl) | (simp [*, errW_none, errW_some] <;> rfl), by apply_rules (transparency := .reducible) [HB.1, bwA, bwN, bwD, bwS, GE351.1, GE352.1]⟩
  rw [if_neg c38] at H
  have c38b0 : decide (64 ≤ a0_1) = false := decide_eq_false c38
  clear c38
  simp only [Option.some.injEq, Prod.mk.injEq] at H
  obtain ⟨rfl, rfl, rfl, rfl⟩ := H
  have hnb51 := NB351_352.1
  have hnc51 := NB352_351.1
  obtain ⟨z52_0, z52_1, z52_2, z52_3, z52_4, z52_5, z52_6, z52_7, z52_8, z52_9, z52_10, z52_11⟩ := bx6 BK351.1
  obtain ⟨z53_0, z53_1, z53_2, z53_3, z53_4, z53_5, z53_6, z53_7⟩ := bx4 BK352.1
  go_wp2
  refine bodyPost_ret (results_cell_row rfl _ _ gb352 36 #[.int .i64 40, .int .i64 0, .string (⟨#[]⟩ : ByteArray), .int .u8 0] (0, 0) _ rfl (by (with_reducible repeat first | apply bkN | apply bkD | apply bkA); refine put4 (cs := #[.int .i64 0, .int .i64 0, .string (⟨#[]⟩ : ByteArray), .int .u8 0]) ?_ rfl; (with_reducible repeat first | apply bkN | apply bkD | apply bkA); exact BK352.1) Try.underlying36 rfl (by kernel_rfl)) rfl ?_
  exact ⟨by first | rfl | (simp [errW_none, errW_some] <;> rfl) | (simp [*, errW_none, errW_some] <;> rfl), by apply_rules (transparency := .reducible) [HB.1, bwA, bwN, bwD, bwS, GE351.1, GE352.1]⟩
 rw [if_neg c31] at H
 have c31b0 : (a0_0 == 2) = false := beq_eq_false_iff_ne.mpr c31
 have c31b1 : (a0_0 != 2) = true := bne_iff_ne.mpr c31
 simp only [Option.some.injEq, Prod.mk.injEq] at H
 obtain ⟨rfl, rfl, rfl, rfl⟩ := H
 have hnb54 := NB352_351.1
 have hnc54 := NB351_352.1
 obtain ⟨z55_0, z55_1, z55_2, z55_3, z55_4, z55_5, z55_6, z55_7⟩ := bx4 BK352.1
 go_wp2
 refine bodyPost_ret (results_cell_row rfl _ _ gb352 36 #[.int .i64 40, .int .i64 0, .string (⟨#[]⟩ : ByteArray), .int .u8 0] (0, 0) _ rfl (by (with_reducible repeat first | apply bkN | apply bkD | apply bkA); refine put4 (cs := #[.int .i64 0, .int .i64 0, .string (⟨#[]⟩ : ByteArray), .int .u8 0]) ?_ rfl; (with_reducible repeat first | apply bkN | apply bkD | apply bkA); exact BK352.1) Try.underlying36 rfl (by kernel_rfl)) rfl ?_
 exact ⟨by first | rfl | (simp [errW_none, errW_some] <;> rfl) | (simp [*, errW_none, errW_some] <;> rfl), by apply_rules (transparency := .reducible) [HB.1, bwA, bwN, bwD, bwS, GE351.1, GE352.1]⟩

end Go.Proofs.Ytgkaiagoogjibaa.PBind
