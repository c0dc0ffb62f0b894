-- written by pp.py of this session's wip: the kit's print, turned in a few places, over this claim's program
import Derived.Test.YtgkaiagoogjibaaPBindx0
namespace Go.Proofs.Ytgkaiagoogjibaa.PBind
open Go.RowKit Go.Proofs.YtgkaiagoogjibaaW.PrintWords Go.Proofs.YtgkaiagoogjibaaW.PrintLast Go.Proofs.YtgkaiagoogjibaaW.PrintMore
open Go.Proofs.YtgkaiagoogjibaaW.PrintWords renaming below_alloc → bwA, pw_below_drewN → bwN, below_drew1 → bwD, below_size → bwZ, below_step → bwP
open Go.Proofs.YtgkaiagoogjibaaW.PrintWords.Aside0 renaming mk → aM
attribute [local go_sem] max2_int min2_int max_two min_two max_three min_three max_four min_four   -- for this text's walks alone
set_option linter.unusedVariables false
set_option linter.unusedSimpArgs false

/-! ### utf8_ValidRune: function 55 -/
def utf8_ValidRune.j0 : Nat → Int → Bool → Option (Bool)
  | 0, _, _ => none
  | k + 1, x0, x3 => if x3 = true then (some true) else (if 57343 < x0 then (if x0 ≤ 1114111 then (some true) else (some false)) else (some false))
def utf8_ValidRune.f (k : Nat) (a0 : Int) : Option (Bool) := if 0 ≤ a0 then (utf8_ValidRune.j0 k a0 (decide (a0 < 55296))) else (utf8_ValidRune.j0 k a0 false)
theorem utf8_ValidRune.mono_l : ∀ k, (∀ y0 y1, LeO (utf8_ValidRune.j0 k y0 y1) (utf8_ValidRune.j0 (k + 1) y0 y1))
  | 0 => fun _ _ r h => by simp [utf8_ValidRune.j0] at h
  | k + 1 => by
    have ih0 := utf8_ValidRune.mono_l k
    · intro y0 y1
      unfold utf8_ValidRune.j0
      repeat' first
      | (with_reducible exact ih0 _ _)
      | (with_reducible exact LeO.refl _)
      | (with_reducible exact LeO.none _)
      | (with_reducible refine LeO.ite ?_ ?_)
      | (with_reducible refine LeO.bind ?_ (fun _ => ?_))
      | exact ih0 _ _
      | exact LeO.none _
      | refine LeO.ite ?_ ?_
      | refine LeO.bind ?_ (fun _ => ?_)
theorem utf8_ValidRune.mono : ∀ a0 k, LeO (utf8_ValidRune.f k a0) (utf8_ValidRune.f (k + 1) a0) := by
 intro a0 k
 have ih0 := utf8_ValidRune.mono_l k
 unfold utf8_ValidRune.f
 repeat' first
   | (with_reducible exact ih0 _ _)
   | (with_reducible exact LeO.refl _)
   | (with_reducible exact LeO.none _)
   | (with_reducible refine LeO.ite ?_ ?_)
   | (with_reducible refine LeO.bind ?_ (fun _ => ?_))
   | exact ih0 _ _
   | exact LeO.none _
   | refine LeO.ite ?_ ?_
   | refine LeO.bind ?_ (fun _ => ?_)
set_option maxHeartbeats 8000000 in
set_option maxRecDepth 100000 in
theorem utf8_ValidRune.calls (k : Nat) (a0 : Int) (r : Bool) (w : World) (h : utf8_ValidRune.f k a0 = some r) :
    Calls Try.prog 55 #[.int .i32 a0] w fun e w' => e = .returned (.bool r) ∧ Drawn0 w w' := by
 have H : (if 0 ≤ a0 then (utf8_ValidRune.j0 k a0 (decide (a0 < 55296))) else (utf8_ValidRune.j0 k a0 false)) = some r := h
 clear h
 have HC2 := aM H
 clear H
 go_enter Try.func55, Try.ntmps55
 go_upto_region 1 with (fail)
 go_cut [3] (fun v3 wc => ∃ (kq : Nat) (x3_1 : Bool), v3 = .bool x3_1 ∧ Aside0 (utf8_ValidRune.j0 kq a0 x3_1 = some r) ∧ Aside0 (kq ≤ k) ∧ Drawn0 w wc)
 case first =>
  have H := HC2.1
  clear HC2
  by_cases c3 : 0 ≤ a0
  ·rw [if_pos c3] at H
   have c3b0 : decide (0 ≤ a0) = true := decide_eq_true c3
   clear c3
   (first | rw [c3b0] | (simp only [i64_w, i32_w]; rw [c3b0]) | skip)
   have H' := aM H
   clear H
   go_wp2
   go_meet
   case rel => exact ⟨_, (decide (a0 < 55296)), rfl, H', ⟨by omega⟩, by repeat (first | exact Drawn0.refl _ | apply Drawn0.step)⟩
  rw [if_neg c3] at H
  have c3b0 : decide (0 ≤ a0) = false := decide_eq_false c3
  clear c3
  (first | rw [c3b0] | (simp only [i64_w, i32_w]; rw [c3b0]) | skip)
  have H' := aM H
  clear H
  go_wp2
  go_meet
  case rel => exact ⟨_, (false), rfl, H', ⟨by omega⟩, by repeat (first | exact Drawn0.refl _ | apply Drawn0.step)⟩
 clear HC2
 obtain ⟨kq, x3_1, rfl, HA, HJ1, ⟨mc1, rfl⟩⟩ := hcut
 obtain _ | kj1 := kq
 ·exact absurd HA.1 (by simp [utf8_ValidRune.j0])
 have H := HA.1
 clear HA
 simp only [utf8_ValidRune.j0] at H
 by_cases c4 : x3_1 = true
 ·subst c4
  replace H : (some true) = some r := by rw [if_pos rfl] at H; exact H
  obtain rfl := Option.some.inj H
  go_wp2
  go_ret
  exact ⟨by first | rfl | (simp; done) | (simp [*]; done), by repeat (first | exact Drawn0.refl _ | apply Drawn0.step)⟩
 replace c4 := Bool.eq_false_iff.mpr c4
 subst c4
 replace H : (if 57343 < a0 then (if a0 ≤ 1114111 then (some true) else (some false)) else (some false)) = some r := by rw [if_neg (show ¬ (false = true) by decide)] at H; exact H
 by_cases c5 : 57343 < a0
 ·rw [if_pos c5] at H
  have c5b0 : decide (57343 < a0) = true := decide_eq_true c5
  clear c5
  by_cases c6 : a0 ≤ 1114111
  ·rw [if_pos c6] at H
   have c6b0 : decide (a0 ≤ 1114111) = true := decide_eq_true c6
   clear c6
   obtain rfl := Option.some.inj H
   go_wp2
   go_ret
   exact ⟨by first | rfl | (simp; done) | (simp [*]; done), by repeat (first | exact Drawn0.refl _ | apply Drawn0.step)⟩
  rw [if_neg c6] at H
  have c6b0 : decide (a0 ≤ 1114111) = false := decide_eq_false c6
  clear c6
  obtain rfl := Option.some.inj H
  go_wp2
  go_ret
  exact ⟨by first | rfl | (simp; done) | (simp [*]; done), by repeat (first | exact Drawn0.refl _ | apply Drawn0.step)⟩
 rw [if_neg c5] at H
 have c5b0 : decide (57343 < a0) = false := decide_eq_false c5
 clear c5
 obtain rfl := Option.some.inj H
 go_wp2
 go_ret
 exact ⟨by first | rfl | (simp; done) | (simp [*]; done), by repeat (first | exact Drawn0.refl _ | apply Drawn0.step)⟩

/-! ### utf8_appendRuneNonASCII: function 58 -/
def utf8_appendRuneNonASCII.j0 : Nat → List Int → Int → Int → Bool → Option (List Int)
  | 0, _, _, _, _ => none
  | k + 1, x0, x1, x5, x25 => if x25 = true then ((some (([Go.bits .or .u8 224 ((x1 / 4096) % 256), 128 + (x1 / 64) % 64, 128 + (x1) % 64] : List Int) : List Int)).bind fun y113 => (if x0.length + y113.length < 140737488355328 then (some (x0 ++ y113)) else (none))) else (if x5 > 65535 then (if x5 ≤ 1114111 then ((some (([Go.bits .or .u8 240 ((x1 / 262144) % 256), 128 + (x1 / 4096) % 64, 128 + (x1 / 64) % 64, 128 + (x1) % 64] : List Int) : List Int)).bind fun y119 => (if x0.length + y119.length < 140737488355328 then (some (x0 ++ y119)) else (none))) else ((some (([239, 191, 189] : List Int) : List Int)).bind fun y125 => (if x0.length + y125.length < 140737488355328 then (some (x0 ++ y125)) else (none)))) else ((some (([239, 191, 189] : List Int) : List Int)).bind fun y131 => (if x0.length + y131.length < 140737488355328 then (some (x0 ++ y131)) else (none))))
def utf8_appendRuneNonASCII.f (k : Nat) (l0 : List Int) (a1 : Int) : Option (List Int) := if ((a1) % 4294967296) ≤ 2047 then ((some (([Go.bits .or .u8 192 ((a1 / 64) % 256), 128 + (a1) % 64] : List Int) : List Int)).bind fun y107 => (if l0.length + y107.length < 140737488355328 then (some (l0 ++ y107)) else (none))) else (if ((a1) % 4294967296) < 55296 then (utf8_appendRuneNonASCII.j0 k l0 a1 ((a1) % 4294967296) (decide (((a1) % 4294967296) < 55296))) else (if 57343 < ((a1) % 4294967296) then (utf8_appendRuneNonASCII.j0 k l0 a1 ((a1) % 4294967296) (decide (((a1) % 4294967296) ≤ 65535))) else (utf8_appendRuneNonASCII.j0 k l0 a1 ((a1) % 4294967296) false)))
theorem utf8_appendRuneNonASCII.mono_l : ∀ k, (∀ y0 y1 y2 y3, LeO (utf8_appendRuneNonASCII.j0 k y0 y1 y2 y3) (utf8_appendRuneNonASCII.j0 (k + 1) y0 y1 y2 y3))
  | 0 => fun _ _ _ _ r h => by simp [utf8_appendRuneNonASCII.j0] at h
  | k + 1 => by
    have ih0 := utf8_appendRuneNonASCII.mono_l k
    · intro y0 y1 y2 y3
      unfold utf8_appendRuneNonASCII.j0
      repeat' first
      | (with_reducible exact ih0 _ _ _ _)
      | (with_reducible exact LeO.refl _)
      | (with_reducible exact LeO.none _)
      | (with_reducible refine LeO.ite ?_ ?_)
      | (with_reducible refine LeO.bind ?_ (fun _ => ?_))
      | exact ih0 _ _ _ _
      | exact LeO.none _
      | refine LeO.ite ?_ ?_
      | refine LeO.bind ?_ (fun _ => ?_)
theorem utf8_appendRuneNonASCII.mono : ∀ a0 a1 k, LeO (utf8_appendRuneNonASCII.f k a0 a1) (utf8_appendRuneNonASCII.f (k + 1) a0 a1) := by
 intro a0 a1 k
 have ih0 := utf8_appendRuneNonASCII.mono_l k
 unfold utf8_appendRuneNonASCII.f
 repeat' first
   | (with_reducible exact ih0 _ _ _ _)
   | (with_reducible exact LeO.refl _)
   | (with_reducible exact LeO.none _)
   | (with_reducible refine LeO.ite ?_ ?_)
   | (with_reducible refine LeO.bind ?_ (fun _ => ?_))
   | exact ih0 _ _ _ _
   | exact LeO.none _
   | refine LeO.ite ?_ ?_
   | refine LeO.bind ?_ (fun _ => ?_)
set_option maxHeartbeats 8000000 in
set_option maxRecDepth 100000 in
theorem utf8_appendRuneNonASCII.calls (k : Nat) (P0_ : Nat → Prop) (u9000_ : Value) (l0 : List Int) (a1 : Int) (r : List Int) (w0 w : World) (hB : Below w0.heap.size w0 w) (ho0 : Kd.R (Kd.int .u8) 5 w w0.heap.size P0_ u9000_ l0) (h : utf8_appendRuneNonASCII.f k l0 a1 = some r) :
    Calls Try.prog 58 #[u9000_, .int .i32 a1] w fun e w' => ∃ v0_ : Value, e = .returned (v0_) ∧ Kd.R (Kd.int .u8) 5 w' w0.heap.size (fun k_ => (P0_ k_ ∨ w.heap.size ≤ k_)) v0_ r ∧ Below w0.heap.size w0 w' ∧ Kept w w' (fun k_ => P0_ k_) := by
 have HO0 := aM (show Kd.R (Kd.int .u8) 5 w w0.heap.size (fun k_ => (P0_ k_ ∨ w.heap.size ≤ k_)) u9000_ l0 from Kd.R_mono ho0 (fun k_ hk => (.inl hk)))
 have HK := aM (Kept.refl w (fun k_ => P0_ k_))
 have HW0 := aM hB.size
 have HB := aM hB
 clear hB
 have H : (if ((a1) % 4294967296) ≤ 2047 then ((some (([Go.bits .or .u8 192 ((a1 / 64) % 256), 128 + (a1) % 64] : List Int) : List Int)).bind fun y107 => (if l0.length + y107.length < 140737488355328 then (some (l0 ++ y107)) else (none))) else (if ((a1) % 4294967296) < 55296 then (utf8_appendRuneNonASCII.j0 k l0 a1 ((a1) % 4294967296) (decide (((a1) % 4294967296) < 55296))) else (if 57343 < ((a1) % 4294967296) then (utf8_appendRuneNonASCII.j0 k l0 a1 ((a1) % 4294967296) (decide (((a1) % 4294967296) ≤ 65535))) else (utf8_appendRuneNonASCII.j0 k l0 a1 ((a1) % 4294967296) false)))) = some r := h
 clear h
 by_cases c3 : ((a1) % 4294967296) ≤ 2047
 ·rw [if_pos c3] at H
  have c3b0 : decide (((a1) % 4294967296) ≤ 2047) = true := decide_eq_true c3
  clear c3
  obtain ⟨y107, hy107⟩ : ∃ y_ : List Int, y_ = (([Go.bits .or .u8 192 ((a1 / 64) % 256), 128 + (a1) % 64] : List Int)) := ⟨_, rfl⟩
  replace H : (if l0.length + y107.length < 140737488355328 then (some (l0 ++ y107)) else (none)) = some r := by first | (rw [hy107]; with_reducible exact H) | (have H2_ := (Option.bind_some _ _).symm.trans H; rw [hy107]; with_reducible exact H2_) | (have H2_ := (Option.bind_some _ _).symm.trans H; with_reducible exact H2_) | with_reducible exact H | (rw [hy107]; exact H) | exact H
  have Ny107 := aM hy107
  clear hy107
  by_cases c4 : l0.length + y107.length < 140737488355328
  ·rw [if_pos c4] at H
   have LMc4 := aM c4
   clear c4
   obtain ⟨y110, hy110⟩ : ∃ y_ : List Int, y_ = (l0 ++ y107) := ⟨_, rfl⟩
   replace H : (some y110) = some r := by first | (rw [hy110]; with_reducible exact H) | (have H2_ := (Option.bind_some _ _).symm.trans H; rw [hy110]; with_reducible exact H2_) | (have H2_ := (Option.bind_some _ _).symm.trans H; with_reducible exact H2_) | with_reducible exact H | (rw [hy110]; exact H) | exact H
   have Ny110 := aM hy110
   clear hy110
   obtain rfl := Option.some.inj H
   go_enter Try.func58, Try.ntmps58
   go_wp2_with (first | ((with_reducible refine gate_dst (N := 23) rfl ?_); refine Kd.R_lit (Kd.int .u8) _ 5 ?hg (N := 23) ?hd (xs := ([Go.bits .or .u8 192 ((a1 / 64) % 256), 128 + (a1) % 64] : List Int)) (inner := [.int .u8 (Go.bits .or .u8 192 ((a1 / 64) % 256)), .int .u8 (128 + (a1) % 64)]) (ok := fun _ => True) (okp := fun _ => True) ?hr ?hp (fun _ hk => hk) trivial (Below.refl _ _) (Nat.le_refl _) (by simp) ?_; (case hd => rfl); (case hg => rfl); (case hr => first | (go_simp; done) | (go_simp; rfl)); (case hp => exact (Reps.one (show Kd.M (Kd.int .u8) _ _ _ (Go.bits .or .u8 192 ((a1 / 64) % 256)) [.int .u8 (Go.bits .or .u8 192 ((a1 / 64) % 256))] from rfl) (Reps.one (show Kd.M (Kd.int .u8) _ _ _ (128 + (a1) % 64) [.int .u8 (128 + (a1) % 64)] from rfl) (Reps.none _ _)))); intro v108 w5 ho6 hb hg_ hnew_; clear hg_ hnew_; (first | rw [← Ny107.1] at ho6 | (simp only [Int.reduceToNat] at ho6; rw [← Ny107.1] at ho6)); have HO109 := aM (Kd.R_lower (Kd.R_new' (Kd.R_newM (M := fun k_ => (P0_ k_ ∨ w.heap.size ≤ k_)) ho6 (by first | exact HK.1.1 | exact (show Kept w _ (fun k_ => P0_ k_) from by repeat (first | (with_reducible first | exact HK.1 | apply Kept.alloc | apply Kept.drewN | apply Kept.drew) | exact HK.1)).1) (fun k_ h_ => .inr h_)) (Kd.R_lt (by (with_reducible repeat first | apply Kd.R_alloc | apply Kd.R_drewN | apply Kd.R_drew); exact HO0.1))) (bwZ (by apply_rules (transparency := .reducible) [HB.1, bwA, bwN, bwD]))); replace HO0 := aM (Kd.R_elder' (by (with_reducible repeat first | apply Kd.R_alloc | apply Kd.R_drewN | apply Kd.R_drew); exact HO0.1) (Kd.R_base ho6) hb); replace HK := aM (Kept.below (S := (fun k_ => P0_ k_)) (by repeat (first | (with_reducible first | exact HK.1 | apply Kept.alloc | apply Kept.drewN | apply Kept.drew) | exact HK.1)) hb); replace HB := aM (bwP (by apply_rules (transparency := .reducible) [HB.1, bwA, bwN, bwD]) hb); clear hb ho6; obtain ⟨Ao8, co8, eo8⟩ := Kd.R_slice HO109.1; subst eo8) | ((with_reducible refine gate_builtin (b := .append) (xs := #[.tmp 14, .tmp 23]) rfl ?_); at_builtin; refine Kd.R_append_rows (Kd.int .u8) (w0 := w0) w0.heap.size rfl (.tmp 14) (.tmp 23) 45 5 (.int .u8 0) 1 rfl Try.underlying45 info5 rfl (by decide) (by omega) u9000_ l0 y107 _ _ _ (fun k_ => (P0_ k_ ∨ w.heap.size ≤ k_) ∧ some k_ ≠ (.slice Ao8 y107.length co8 : Value).ownBlock) (fun _ => False) rfl rfl ?aO ?aR (fun _ _ h => h) (fun _ h => h.elim) ?aF ?aB ?aS ?aL ?_; (case aR => repeat (first | exact (Kd.R_reads' HO109.1).2.2 | (with_reducible refine Kd.C_alloc ?_ _) | (with_reducible refine Kd.C_drewN ?_ _) | (with_reducible refine Kd.C_drew ?_))); (case aB => exact (by apply_rules (transparency := .reducible) [HB.1, bwA, bwN, bwD])); (case aF => exact (fun k_ hk => ⟨(.inr (Nat.le_trans (by first | exact HK.1.1 | exact (show Kept w _ (fun k_ => P0_ k_) from by repeat (first | (with_reducible first | exact HK.1 | apply Kept.alloc | apply Kept.drewN | apply Kept.drew) | exact HK.1)).1) hk)), Kd.fresh' (Kd.R_lt (by (with_reducible repeat first | apply Kd.R_alloc | apply Kd.R_drewN | apply Kd.R_drew); exact HO109.1)) k_ hk⟩)); (case aO => exact (by (with_reducible repeat first | apply Kd.R_alloc | apply Kd.R_drewN | apply Kd.R_drew); exact HO0.1)); (case aS => exact (bwZ (by apply_rules (transparency := .reducible) [HB.1, bwA, bwN, bwD]))); (case aL => have := LMc4.out; omega); intro v111 w7 ho hb hg hat; rw [← Ny110.1] at ho; have n0_ := aM (Kd.R_after (ok := (fun k_ => (P0_ k_ ∨ w.heap.size ≤ k_))) (by (with_reducible repeat first | apply Kd.R_alloc | apply Kd.R_drewN | apply Kd.R_drew); exact Kd.R_mono HO109.1 (fun _ hk => ⟨hk.1.1, hk.2⟩)) hg hat); have n1_ := aM (hb); have n2_ := aM (Kept.of_grown (S := (fun k_ => P0_ k_)) hg (by repeat (first | (with_reducible first | exact HK.1 | apply Kept.alloc | apply Kept.drewN | apply Kept.drew) | exact HK.1)) (fun k_ e_ => (HO0.1.1 k_ e_).1)); have n3_ := aM (ho); clear HO109; clear HB; clear HK; clear HO0; have HO109 := n0_; have HB := n1_; have HK := n2_; have HO112 := n3_; clear n0_ n1_ n2_ n3_; clear ho hb hg hat))
   go_ret
   exact ⟨_, by first | rfl | (simp [errW_none, errW_some] <;> rfl) | (simp [*, errW_none, errW_some] <;> rfl), by (with_reducible repeat first | apply Kd.R_alloc | apply Kd.R_drewN | apply Kd.R_drew); exact Kd.R_mono HO112.1 (fun _ hk => hk.1), by apply_rules (transparency := .reducible) [HB.1, bwA, bwN, bwD], by repeat (first | (with_reducible first | exact HK.1 | apply Kept.alloc | apply Kept.drewN | apply Kept.drew) | exact HK.1)⟩
  rw [if_neg c4] at H
  exact absurd H (by simp)
 rw [if_neg c3] at H
 have c3b0 : decide (((a1) % 4294967296) ≤ 2047) = false := decide_eq_false c3
 clear c3
 have HC9 := aM H
 clear H
 go_enter Try.func58, Try.ntmps58
 go_upto_if 25 with (fail)
 go_cut [25] (fun v25 wc => ∃ (kq : Nat) (x25_8 : Bool), v25 = .bool x25_8 ∧ Aside0 (utf8_appendRuneNonASCII.j0 kq l0 a1 ((a1) % 4294967296) x25_8 = some r) ∧ Aside0 (kq ≤ k) ∧ Aside0 (Kd.R (Kd.int .u8) 5 wc w0.heap.size (fun k_ => (P0_ k_ ∨ w.heap.size ≤ k_)) u9000_ l0) ∧ Aside0 (Kept w wc (fun k_ => P0_ k_)) ∧ Aside0 (Below w0.heap.size w0 wc))
 case first =>
  have H := HC9.1
  clear HC9
  by_cases c10 : ((a1) % 4294967296) < 55296
  ·rw [if_pos c10] at H
   have c10b0 : decide (((a1) % 4294967296) < 55296) = true := decide_eq_true c10
   clear c10
   (first | rw [c10b0] | (simp only [i64_w, i32_w]; rw [c10b0]) | skip)
   have H' := aM H
   clear H
   go_wp2
   go_meet
   case rel => exact ⟨_, (decide (((a1) % 4294967296) < 55296)), (by first | rfl | (simp; done) | (simp [*]; done)), H', ⟨by first | omega | exact Nat.le_refl _⟩, ⟨by (with_reducible repeat first | apply Kd.R_alloc | apply Kd.R_drewN | apply Kd.R_drew); exact HO0.1⟩, ⟨by repeat (first | (with_reducible first | exact HK.1 | apply Kept.alloc | apply Kept.drewN | apply Kept.drew) | exact HK.1)⟩, ⟨by apply_rules (transparency := .reducible) [HB.1, bwA, bwN, bwD]⟩⟩
  rw [if_neg c10] at H
  have c10b0 : decide (((a1) % 4294967296) < 55296) = false := decide_eq_false c10
  clear c10
  (first | rw [c10b0] | (simp only [i64_w, i32_w]; rw [c10b0]) | skip)
  by_cases c11 : 57343 < ((a1) % 4294967296)
  ·rw [if_pos c11] at H
   have c11b0 : decide (57343 < ((a1) % 4294967296)) = true := decide_eq_true c11
   clear c11
   have H' := aM H
   clear H
   go_wp2
   go_meet
   case rel => exact ⟨_, (decide (((a1) % 4294967296) ≤ 65535)), (by first | rfl | (simp; done) | (simp [*]; done)), H', ⟨by first | omega | exact Nat.le_refl _⟩, ⟨by (with_reducible repeat first | apply Kd.R_alloc | apply Kd.R_drewN | apply Kd.R_drew); exact HO0.1⟩, ⟨by repeat (first | (with_reducible first | exact HK.1 | apply Kept.alloc | apply Kept.drewN | apply Kept.drew) | exact HK.1)⟩, ⟨by apply_rules (transparency := .reducible) [HB.1, bwA, bwN, bwD]⟩⟩
  rw [if_neg c11] at H
  have c11b0 : decide (57343 < ((a1) % 4294967296)) = false := decide_eq_false c11
  clear c11
  have H' := aM H
  clear H
  go_wp2
  go_meet
  case rel => exact ⟨_, (false), (by first | rfl | (simp; done) | (simp [*]; done)), H', ⟨by first | omega | exact Nat.le_refl _⟩, ⟨by (with_reducible repeat first | apply Kd.R_alloc | apply Kd.R_drewN | apply Kd.R_drew); exact HO0.1⟩, ⟨by repeat (first | (with_reducible first | exact HK.1 | apply Kept.alloc | apply Kept.drewN | apply Kept.drew) | exact HK.1)⟩, ⟨by apply_rules (transparency := .reducible) [HB.1, bwA, bwN, bwD]⟩⟩
 clear HC9
 try clear c3
 try clear c3b0
 obtain ⟨kq, x25_8, rfl, HA, HJ8, HO_0, HK, HB⟩ := hcut
 obtain _ | kj8 := kq
 ·exact absurd HA.1 (by simp [utf8_appendRuneNonASCII.j0])
 have H := HA.1
 clear HA
 simp only [utf8_appendRuneNonASCII.j0] at H
 by_cases c12 : x25_8 = true
 ·subst c12
  replace H : ((some (([Go.bits .or .u8 224 ((a1 / 4096) % 256), 128 + (a1 / 64) % 64, 128 + (a1) % 64] : List Int) : List Int)).bind fun y113 => (if l0.length + y113.length < 140737488355328 then (some (l0 ++ y113)) else (none))) = some r := by rw [if_pos rfl] at H; exact H
  obtain ⟨y113, hy113⟩ : ∃ y_ : List Int, y_ = (([Go.bits .or .u8 224 ((a1 / 4096) % 256), 128 + (a1 / 64) % 64, 128 + (a1) % 64] : List Int)) := ⟨_, rfl⟩
  replace H : (if l0.length + y113.length < 140737488355328 then (some (l0 ++ y113)) else (none)) = some r := by first | (rw [hy113]; with_reducible exact H) | (have H2_ := (Option.bind_some _ _).symm.trans H; rw [hy113]; with_reducible exact H2_) | (have H2_ := (Option.bind_some _ _).symm.trans H; with_reducible exact H2_) | with_reducible exact H | (rw [hy113]; exact H) | exact H
  have Ny113 := aM hy113
  clear hy113
  by_cases c13 : l0.length + y113.length < 140737488355328
  ·rw [if_pos c13] at H
   have LMc13 := aM c13
   clear c13
   obtain ⟨y116, hy116⟩ : ∃ y_ : List Int, y_ = (l0 ++ y113) := ⟨_, rfl⟩
   replace H : (some y116) = some r := by first | (rw [hy116]; with_reducible exact H) | (have H2_ := (Option.bind_some _ _).symm.trans H; rw [hy116]; with_reducible exact H2_) | (have H2_ := (Option.bind_some _ _).symm.trans H; with_reducible exact H2_) | with_reducible exact H | (rw [hy116]; exact H) | exact H
   have Ny116 := aM hy116
   clear hy116
   obtain rfl := Option.some.inj H
   go_wp2_with (first | ((with_reducible refine gate_dst (N := 48) rfl ?_); refine Kd.R_lit (Kd.int .u8) _ 5 ?hg (N := 48) ?hd (xs := ([Go.bits .or .u8 224 ((a1 / 4096) % 256), 128 + (a1 / 64) % 64, 128 + (a1) % 64] : List Int)) (inner := [.int .u8 (Go.bits .or .u8 224 ((a1 / 4096) % 256)), .int .u8 (128 + (a1 / 64) % 64), .int .u8 (128 + (a1) % 64)]) (ok := fun _ => True) (okp := fun _ => True) ?hr ?hp (fun _ hk => hk) trivial (Below.refl _ _) (Nat.le_refl _) (by simp) ?_; (case hd => rfl); (case hg => rfl); (case hr => first | (go_simp; done) | (go_simp; rfl)); (case hp => exact (Reps.one (show Kd.M (Kd.int .u8) _ _ _ (Go.bits .or .u8 224 ((a1 / 4096) % 256)) [.int .u8 (Go.bits .or .u8 224 ((a1 / 4096) % 256))] from rfl) (Reps.one (show Kd.M (Kd.int .u8) _ _ _ (128 + (a1 / 64) % 64) [.int .u8 (128 + (a1 / 64) % 64)] from rfl) (Reps.one (show Kd.M (Kd.int .u8) _ _ _ (128 + (a1) % 64) [.int .u8 (128 + (a1) % 64)] from rfl) (Reps.none _ _))))); intro v114 w14 ho15 hb hg_ hnew_; clear hg_ hnew_; (first | rw [← Ny113.1] at ho15 | (simp only [Int.reduceToNat] at ho15; rw [← Ny113.1] at ho15)); have HO115 := aM (Kd.R_lower (Kd.R_new' (Kd.R_newM (M := fun k_ => (P0_ k_ ∨ w.heap.size ≤ k_)) ho15 (by first | exact HK.1.1 | exact (show Kept w _ (fun k_ => P0_ k_) from by repeat (first | (with_reducible first | exact HK.1 | apply Kept.alloc | apply Kept.drewN | apply Kept.drew) | exact HK.1)).1) (fun k_ h_ => .inr h_)) (Kd.R_lt (by (with_reducible repeat first | apply Kd.R_alloc | apply Kd.R_drewN | apply Kd.R_drew); exact HO_0.out))) (bwZ (by apply_rules (transparency := .reducible) [HB.1, bwA, bwN, bwD]))); replace HO_0 := aM (Kd.R_elder' (by (with_reducible repeat first | apply Kd.R_alloc | apply Kd.R_drewN | apply Kd.R_drew); exact HO_0.out) (Kd.R_base ho15) hb); replace HK := aM (Kept.below (S := (fun k_ => P0_ k_)) (by repeat (first | (with_reducible first | exact HK.1 | apply Kept.alloc | apply Kept.drewN | apply Kept.drew) | exact HK.1)) hb); replace HB := aM (bwP (by apply_rules (transparency := .reducible) [HB.1, bwA, bwN, bwD]) hb); clear hb ho15; obtain ⟨Ao17, co17, eo17⟩ := Kd.R_slice HO115.1; subst eo17) | ((with_reducible refine gate_builtin (b := .append) (xs := #[.tmp 34, .tmp 48]) rfl ?_); at_builtin; refine Kd.R_append_rows (Kd.int .u8) (w0 := w0) w0.heap.size rfl (.tmp 34) (.tmp 48) 45 5 (.int .u8 0) 1 rfl Try.underlying45 info5 rfl (by decide) (by omega) u9000_ l0 y113 _ _ _ (fun k_ => (P0_ k_ ∨ w.heap.size ≤ k_) ∧ some k_ ≠ (.slice Ao17 y113.length co17 : Value).ownBlock) (fun _ => False) rfl rfl ?aO ?aR (fun _ _ h => h) (fun _ h => h.elim) ?aF ?aB ?aS ?aL ?_; (case aR => repeat (first | exact (Kd.R_reads' HO115.1).2.2 | (with_reducible refine Kd.C_alloc ?_ _) | (with_reducible refine Kd.C_drewN ?_ _) | (with_reducible refine Kd.C_drew ?_))); (case aB => exact (by apply_rules (transparency := .reducible) [HB.1, bwA, bwN, bwD])); (case aF => exact (fun k_ hk => ⟨(.inr (Nat.le_trans (by first | exact HK.1.1 | exact (show Kept w _ (fun k_ => P0_ k_) from by repeat (first | (with_reducible first | exact HK.1 | apply Kept.alloc | apply Kept.drewN | apply Kept.drew) | exact HK.1)).1) hk)), Kd.fresh' (Kd.R_lt (by (with_reducible repeat first | apply Kd.R_alloc | apply Kd.R_drewN | apply Kd.R_drew); exact HO115.1)) k_ hk⟩)); (case aO => exact (by (with_reducible repeat first | apply Kd.R_alloc | apply Kd.R_drewN | apply Kd.R_drew); exact HO_0.out)); (case aS => exact (bwZ (by apply_rules (transparency := .reducible) [HB.1, bwA, bwN, bwD]))); (case aL => have := LMc13.out; omega); intro v117 w16 ho hb hg hat; rw [← Ny116.1] at ho; have n0_ := aM (Kd.R_after (ok := (fun k_ => (P0_ k_ ∨ w.heap.size ≤ k_))) (by (with_reducible repeat first | apply Kd.R_alloc | apply Kd.R_drewN | apply Kd.R_drew); exact Kd.R_mono HO115.1 (fun _ hk => ⟨hk.1.1, hk.2⟩)) hg hat); have n1_ := aM (hb); have n2_ := aM (Kept.of_grown (S := (fun k_ => P0_ k_)) hg (by repeat (first | (with_reducible first | exact HK.1 | apply Kept.alloc | apply Kept.drewN | apply Kept.drew) | exact HK.1)) (fun k_ e_ => (HO_0.out.1 k_ e_).1)); have n3_ := aM (ho); clear HO115; clear HB; clear HK; clear HO_0; have HO115 := n0_; have HB := n1_; have HK := n2_; have HO118 := n3_; clear n0_ n1_ n2_ n3_; clear ho hb hg hat))
   go_ret
   exact ⟨_, by first | rfl | (simp [errW_none, errW_some] <;> rfl) | (simp [*, errW_none, errW_some] <;> rfl), by (with_reducible repeat first | apply Kd.R_alloc | apply Kd.R_drewN | apply Kd.R_drew); exact Kd.R_mono HO118.1 (fun _ hk => hk.1), by apply_rules (transparency := .reducible) [HB.1, bwA, bwN, bwD], by repeat (first | (with_reducible first | exact HK.1 | apply Kept.alloc | apply Kept.drewN | apply Kept.drew) | exact HK.1)⟩
  rw [if_neg c13] at H
  exact absurd H (by simp)
 replace c12 := Bool.eq_false_iff.mpr c12
 subst c12
 replace H : (if ((a1) % 4294967296) > 65535 then (if ((a1) % 4294967296) ≤ 1114111 then ((some (([Go.bits .or .u8 240 ((a1 / 262144) % 256), 128 + (a1 / 4096) % 64, 128 + (a1 / 64) % 64, 128 + (a1) % 64] : List Int) : List Int)).bind fun y119 => (if l0.length + y119.length < 140737488355328 then (some (l0 ++ y119)) else (none))) else ((some (([239, 191, 189] : List Int) : List Int)).bind fun y125 => (if l0.length + y125.length < 140737488355328 then (some (l0 ++ y125)) else (none)))) else ((some (([239, 191, 189] : List Int) : List Int)).bind fun y131 => (if l0.length + y131.length < 140737488355328 then (some (l0 ++ y131)) else (none)))) = some r := by rw [if_neg (show ¬ (false = true) by decide)] at H; exact H
 by_cases c18 : ((a1) % 4294967296) > 65535
 ·rw [if_pos c18] at H
  have c18b0 : decide (65535 < ((a1) % 4294967296)) = true := decide_eq_true c18
  clear c18
  by_cases c19 : ((a1) % 4294967296) ≤ 1114111
  ·rw [if_pos c19] at H
   have c19b0 : decide (((a1) % 4294967296) ≤ 1114111) = true := decide_eq_true c19
   clear c19
   obtain ⟨y119, hy119⟩ : ∃ y_ : List Int, y_ = (([Go.bits .or .u8 240 ((a1 / 262144) % 256), 128 + (a1 / 4096) % 64, 128 + (a1 / 64) % 64, 128 + (a1) % 64] : List Int)) := ⟨_, rfl⟩
   replace H : (if l0.length + y119.length < 140737488355328 then (some (l0 ++ y119)) else (none)) = some r := by first | (rw [hy119]; with_reducible exact H) | (have H2_ := (Option.bind_some _ _).symm.trans H; rw [hy119]; with_reducible exact H2_) | (have H2_ := (Option.bind_some _ _).symm.trans H; with_reducible exact H2_) | with_reducible exact H | (rw [hy119]; exact H) | exact H
   have Ny119 := aM hy119
   clear hy119
   by_cases c20 : l0.length + y119.length < 140737488355328
   ·rw [if_pos c20] at H
    have LMc20 := aM c20
    clear c20
    obtain ⟨y122, hy122⟩ : ∃ y_ : List Int, y_ = (l0 ++ y119) := ⟨_, rfl⟩
    replace H : (some y122) = some r := by first | (rw [hy122]; with_reducible exact H) | (have H2_ := (Option.bind_some _ _).symm.trans H; rw [hy122]; with_reducible exact H2_) | (have H2_ := (Option.bind_some _ _).symm.trans H; with_reducible exact H2_) | with_reducible exact H | (rw [hy122]; exact H) | exact H
    have Ny122 := aM hy122
    clear hy122
    obtain rfl := Option.some.inj H
    go_wp2_with (first | ((with_reducible refine gate_dst (N := 76) rfl ?_); refine Kd.R_lit (Kd.int .u8) _ 5 ?hg (N := 76) ?hd (xs := ([Go.bits .or .u8 240 ((a1 / 262144) % 256), 128 + (a1 / 4096) % 64, 128 + (a1 / 64) % 64, 128 + (a1) % 64] : List Int)) (inner := [.int .u8 (Go.bits .or .u8 240 ((a1 / 262144) % 256)), .int .u8 (128 + (a1 / 4096) % 64), .int .u8 (128 + (a1 / 64) % 64), .int .u8 (128 + (a1) % 64)]) (ok := fun _ => True) (okp := fun _ => True) ?hr ?hp (fun _ hk => hk) trivial (Below.refl _ _) (Nat.le_refl _) (by simp) ?_; (case hd => rfl); (case hg => rfl); (case hr => first | (go_simp; done) | (go_simp; rfl)); (case hp => exact (Reps.one (show Kd.M (Kd.int .u8) _ _ _ (Go.bits .or .u8 240 ((a1 / 262144) % 256)) [.int .u8 (Go.bits .or .u8 240 ((a1 / 262144) % 256))] from rfl) (Reps.one (show Kd.M (Kd.int .u8) _ _ _ (128 + (a1 / 4096) % 64) [.int .u8 (128 + (a1 / 4096) % 64)] from rfl) (Reps.one (show Kd.M (Kd.int .u8) _ _ _ (128 + (a1 / 64) % 64) [.int .u8 (128 + (a1 / 64) % 64)] from rfl) (Reps.one (show Kd.M (Kd.int .u8) _ _ _ (128 + (a1) % 64) [.int .u8 (128 + (a1) % 64)] from rfl) (Reps.none _ _)))))); intro v120 w21 ho22 hb hg_ hnew_; clear hg_ hnew_; (first | rw [← Ny119.1] at ho22 | (simp only [Int.reduceToNat] at ho22; rw [← Ny119.1] at ho22)); have HO121 := aM (Kd.R_lower (Kd.R_new' (Kd.R_newM (M := fun k_ => (P0_ k_ ∨ w.heap.size ≤ k_)) ho22 (by first | exact HK.1.1 | exact (show Kept w _ (fun k_ => P0_ k_) from by repeat (first | (with_reducible first | exact HK.1 | apply Kept.alloc | apply Kept.drewN | apply Kept.drew) | exact HK.1)).1) (fun k_ h_ => .inr h_)) (Kd.R_lt (by (with_reducible repeat first | apply Kd.R_alloc | apply Kd.R_drewN | apply Kd.R_drew); exact HO_0.out))) (bwZ (by apply_rules (transparency := .reducible) [HB.1, bwA, bwN, bwD]))); replace HO_0 := aM (Kd.R_elder' (by (with_reducible repeat first | apply Kd.R_alloc | apply Kd.R_drewN | apply Kd.R_drew); exact HO_0.out) (Kd.R_base ho22) hb); replace HK := aM (Kept.below (S := (fun k_ => P0_ k_)) (by repeat (first | (with_reducible first | exact HK.1 | apply Kept.alloc | apply Kept.drewN | apply Kept.drew) | exact HK.1)) hb); replace HB := aM (bwP (by apply_rules (transparency := .reducible) [HB.1, bwA, bwN, bwD]) hb); clear hb ho22; obtain ⟨Ao24, co24, eo24⟩ := Kd.R_slice HO121.1; subst eo24) | ((with_reducible refine gate_builtin (b := .append) (xs := #[.tmp 57, .tmp 76]) rfl ?_); at_builtin; refine Kd.R_append_rows (Kd.int .u8) (w0 := w0) w0.heap.size rfl (.tmp 57) (.tmp 76) 45 5 (.int .u8 0) 1 rfl Try.underlying45 info5 rfl (by decide) (by omega) u9000_ l0 y119 _ _ _ (fun k_ => (P0_ k_ ∨ w.heap.size ≤ k_) ∧ some k_ ≠ (.slice Ao24 y119.length co24 : Value).ownBlock) (fun _ => False) rfl rfl ?aO ?aR (fun _ _ h => h) (fun _ h => h.elim) ?aF ?aB ?aS ?aL ?_; (case aR => repeat (first | exact (Kd.R_reads' HO121.1).2.2 | (with_reducible refine Kd.C_alloc ?_ _) | (with_reducible refine Kd.C_drewN ?_ _) | (with_reducible refine Kd.C_drew ?_))); (case aB => exact (by apply_rules (transparency := .reducible) [HB.1, bwA, bwN, bwD])); (case aF => exact (fun k_ hk => ⟨(.inr (Nat.le_trans (by first | exact HK.1.1 | exact (show Kept w _ (fun k_ => P0_ k_) from by repeat (first | (with_reducible first | exact HK.1 | apply Kept.alloc | apply Kept.drewN | apply Kept.drew) | exact HK.1)).1) hk)), Kd.fresh' (Kd.R_lt (by (with_reducible repeat first | apply Kd.R_alloc | apply Kd.R_drewN | apply Kd.R_drew); exact HO121.1)) k_ hk⟩)); (case aO => exact (by (with_reducible repeat first | apply Kd.R_alloc | apply Kd.R_drewN | apply Kd.R_drew); exact HO_0.out)); (case aS => exact (bwZ (by apply_rules (transparency := .reducible) [HB.1, bwA, bwN, bwD]))); (case aL => have := LMc20.out; omega); intro v123 w23 ho hb hg hat; rw [← Ny122.1] at ho; have n0_ := aM (Kd.R_after (ok := (fun k_ => (P0_ k_ ∨ w.heap.size ≤ k_))) (by (with_reducible repeat first | apply Kd.R_alloc | apply Kd.R_drewN | apply Kd.R_drew); exact Kd.R_mono HO121.1 (fun _ hk => ⟨hk.1.1, hk.2⟩)) hg hat); have n1_ := aM (hb); have n2_ := aM (Kept.of_grown (S := (fun k_ => P0_ k_)) hg (by repeat (first | (with_reducible first | exact HK.1 | apply Kept.alloc | apply Kept.drewN | apply Kept.drew) | exact HK.1)) (fun k_ e_ => (HO_0.out.1 k_ e_).1)); have n3_ := aM (ho); clear HO121; clear HB; clear HK; clear HO_0; have HO121 := n0_; have HB := n1_; have HK := n2_; have HO124 := n3_; clear n0_ n1_ n2_ n3_; clear ho hb hg hat))
    go_ret
    exact ⟨_, by first | rfl | (simp [errW_none, errW_some] <;> rfl) | (simp [*, errW_none, errW_some] <;> rfl), by (with_reducible repeat first | apply Kd.R_alloc | apply Kd.R_drewN | apply Kd.R_drew); exact Kd.R_mono HO124.1 (fun _ hk => hk.1), by apply_rules (transparency := .reducible) [HB.1, bwA, bwN, bwD], by repeat (first | (with_reducible first | exact HK.1 | apply Kept.alloc | apply Kept.drewN | apply Kept.drew) | exact HK.1)⟩
   rw [if_neg c20] at H
   exact absurd H (by simp)
  rw [if_neg c19] at H
  have c19b0 : decide (((a1) % 4294967296) ≤ 1114111) = false := decide_eq_false c19
  clear c19
  obtain ⟨y125, hy125⟩ : ∃ y_ : List Int, y_ = (([239, 191, 189] : List Int)) := ⟨_, rfl⟩
  replace H : (if l0.length + y125.length < 140737488355328 then (some (l0 ++ y125)) else (none)) = some r := by first | (rw [hy125]; with_reducible exact H) | (have H2_ := (Option.bind_some _ _).symm.trans H; rw [hy125]; with_reducible exact H2_) | (have H2_ := (Option.bind_some _ _).symm.trans H; with_reducible exact H2_) | with_reducible exact H | (rw [hy125]; exact H) | exact H
  have Ny125 := aM hy125
  clear hy125
  by_cases c25 : l0.length + y125.length < 140737488355328
  ·rw [if_pos c25] at H
   have LMc25 := aM c25
   clear c25
   obtain ⟨y128, hy128⟩ : ∃ y_ : List Int, y_ = (l0 ++ y125) := ⟨_, rfl⟩
   replace H : (some y128) = some r := by first | (rw [hy128]; with_reducible exact H) | (have H2_ := (Option.bind_some _ _).symm.trans H; rw [hy128]; with_reducible exact H2_) | (have H2_ := (Option.bind_some _ _).symm.trans H; with_reducible exact H2_) | with_reducible exact H | (rw [hy128]; exact H) | exact H
   have Ny128 := aM hy128
   clear hy128
   obtain rfl := Option.some.inj H
   go_wp2_with (first | ((with_reducible refine gate_dst (N := 9) rfl ?_); refine Kd.R_lit (Kd.int .u8) _ 5 ?hg (N := 9) ?hd (xs := ([239, 191, 189] : List Int)) (inner := [.int .u8 239, .int .u8 191, .int .u8 189]) (ok := fun _ => True) (okp := fun _ => True) ?hr ?hp (fun _ hk => hk) trivial (Below.refl _ _) (Nat.le_refl _) (by simp) ?_; (case hd => rfl); (case hg => rfl); (case hr => first | (go_simp; done) | (go_simp; rfl)); (case hp => exact (Reps.one (show Kd.M (Kd.int .u8) _ _ _ 239 [.int .u8 239] from rfl) (Reps.one (show Kd.M (Kd.int .u8) _ _ _ 191 [.int .u8 191] from rfl) (Reps.one (show Kd.M (Kd.int .u8) _ _ _ 189 [.int .u8 189] from rfl) (Reps.none _ _))))); intro v126 w26 ho27 hb hg_ hnew_; clear hg_ hnew_; (first | rw [← Ny125.1] at ho27 | (simp only [Int.reduceToNat] at ho27; rw [← Ny125.1] at ho27)); have HO127 := aM (Kd.R_lower (Kd.R_new' (Kd.R_newM (M := fun k_ => (P0_ k_ ∨ w.heap.size ≤ k_)) ho27 (by first | exact HK.1.1 | exact (show Kept w _ (fun k_ => P0_ k_) from by repeat (first | (with_reducible first | exact HK.1 | apply Kept.alloc | apply Kept.drewN | apply Kept.drew) | exact HK.1)).1) (fun k_ h_ => .inr h_)) (Kd.R_lt (by (with_reducible repeat first | apply Kd.R_alloc | apply Kd.R_drewN | apply Kd.R_drew); exact HO_0.out))) (bwZ (by apply_rules (transparency := .reducible) [HB.1, bwA, bwN, bwD]))); replace HO_0 := aM (Kd.R_elder' (by (with_reducible repeat first | apply Kd.R_alloc | apply Kd.R_drewN | apply Kd.R_drew); exact HO_0.out) (Kd.R_base ho27) hb); replace HK := aM (Kept.below (S := (fun k_ => P0_ k_)) (by repeat (first | (with_reducible first | exact HK.1 | apply Kept.alloc | apply Kept.drewN | apply Kept.drew) | exact HK.1)) hb); replace HB := aM (bwP (by apply_rules (transparency := .reducible) [HB.1, bwA, bwN, bwD]) hb); clear hb ho27; obtain ⟨Ao29, co29, eo29⟩ := Kd.R_slice HO127.1; subst eo29) | ((with_reducible refine gate_builtin (b := .append) (xs := #[.tmp 8, .tmp 9]) rfl ?_); at_builtin; refine Kd.R_append_rows (Kd.int .u8) (w0 := w0) w0.heap.size rfl (.tmp 8) (.tmp 9) 45 5 (.int .u8 0) 1 rfl Try.underlying45 info5 rfl (by decide) (by omega) u9000_ l0 y125 _ _ _ (fun k_ => (P0_ k_ ∨ w.heap.size ≤ k_) ∧ some k_ ≠ (.slice Ao29 y125.length co29 : Value).ownBlock) (fun _ => False) rfl rfl ?aO ?aR (fun _ _ h => h) (fun _ h => h.elim) ?aF ?aB ?aS ?aL ?_; (case aR => repeat (first | exact (Kd.R_reads' HO127.1).2.2 | (with_reducible refine Kd.C_alloc ?_ _) | (with_reducible refine Kd.C_drewN ?_ _) | (with_reducible refine Kd.C_drew ?_))); (case aB => exact (by apply_rules (transparency := .reducible) [HB.1, bwA, bwN, bwD])); (case aF => exact (fun k_ hk => ⟨(.inr (Nat.le_trans (by first | exact HK.1.1 | exact (show Kept w _ (fun k_ => P0_ k_) from by repeat (first | (with_reducible first | exact HK.1 | apply Kept.alloc | apply Kept.drewN | apply Kept.drew) | exact HK.1)).1) hk)), Kd.fresh' (Kd.R_lt (by (with_reducible repeat first | apply Kd.R_alloc | apply Kd.R_drewN | apply Kd.R_drew); exact HO127.1)) k_ hk⟩)); (case aO => exact (by (with_reducible repeat first | apply Kd.R_alloc | apply Kd.R_drewN | apply Kd.R_drew); exact HO_0.out)); (case aS => exact (bwZ (by apply_rules (transparency := .reducible) [HB.1, bwA, bwN, bwD]))); (case aL => have := LMc25.out; omega); intro v129 w28 ho hb hg hat; rw [← Ny128.1] at ho; have n0_ := aM (Kd.R_after (ok := (fun k_ => (P0_ k_ ∨ w.heap.size ≤ k_))) (by (with_reducible repeat first | apply Kd.R_alloc | apply Kd.R_drewN | apply Kd.R_drew); exact Kd.R_mono HO127.1 (fun _ hk => ⟨hk.1.1, hk.2⟩)) hg hat); have n1_ := aM (hb); have n2_ := aM (Kept.of_grown (S := (fun k_ => P0_ k_)) hg (by repeat (first | (with_reducible first | exact HK.1 | apply Kept.alloc | apply Kept.drewN | apply Kept.drew) | exact HK.1)) (fun k_ e_ => (HO_0.out.1 k_ e_).1)); have n3_ := aM (ho); clear HO127; clear HB; clear HK; clear HO_0; have HO127 := n0_; have HB := n1_; have HK := n2_; have HO130 := n3_; clear n0_ n1_ n2_ n3_; clear ho hb hg hat))
   go_ret
   exact ⟨_, by first | rfl | (simp [errW_none, errW_some] <;> rfl) | (simp [*, errW_none, errW_some] <;> rfl), by (with_reducible repeat first | apply Kd.R_alloc | apply Kd.R_drewN | apply Kd.R_drew); exact Kd.R_mono HO130.1 (fun _ hk => hk.1), by apply_rules (transparency := .reducible) [HB.1, bwA, bwN, bwD], by repeat (first | (with_reducible first | exact HK.1 | apply Kept.alloc | apply Kept.drewN | apply Kept.drew) | exact HK.1)⟩
  rw [if_neg c25] at H
  exact absurd H (by simp)
 rw [if_neg c18] at H
 have c18b0 : decide (65535 < ((a1) % 4294967296)) = false := decide_eq_false c18
 clear c18
 obtain ⟨y131, hy131⟩ : ∃ y_ : List Int, y_ = (([239, 191, 189] : List Int)) := ⟨_, rfl⟩
 replace H : (if l0.length + y131.length < 140737488355328 then (some (l0 ++ y131)) else (none)) = some r := by first | (rw [hy131]; with_reducible exact H) | (have H2_ := (Option.bind_some _ _).symm.trans H; rw [hy131]; with_reducible exact H2_) | (have H2_ := (Option.bind_some _ _).symm.trans H; with_reducible exact H2_) | with_reducible exact H | (rw [hy131]; exact H) | exact H
 have Ny131 := aM hy131
 clear hy131
 by_cases c30 : l0.length + y131.length < 140737488355328
 ·rw [if_pos c30] at H
  have LMc30 := aM c30
  clear c30
  obtain ⟨y134, hy134⟩ : ∃ y_ : List Int, y_ = (l0 ++ y131) := ⟨_, rfl⟩
  replace H : (some y134) = some r := by first | (rw [hy134]; with_reducible exact H) | (have H2_ := (Option.bind_some _ _).symm.trans H; rw [hy134]; with_reducible exact H2_) | (have H2_ := (Option.bind_some _ _).symm.trans H; with_reducible exact H2_) | with_reducible exact H | (rw [hy134]; exact H) | exact H
  have Ny134 := aM hy134
  clear hy134
  obtain rfl := Option.some.inj H
  go_wp2_with (first | ((with_reducible refine gate_dst (N := 9) rfl ?_); refine Kd.R_lit (Kd.int .u8) _ 5 ?hg (N := 9) ?hd (xs := ([239, 191, 189] : List Int)) (inner := [.int .u8 239, .int .u8 191, .int .u8 189]) (ok := fun _ => True) (okp := fun _ => True) ?hr ?hp (fun _ hk => hk) trivial (Below.refl _ _) (Nat.le_refl _) (by simp) ?_; (case hd => rfl); (case hg => rfl); (case hr => first | (go_simp; done) | (go_simp; rfl)); (case hp => exact (Reps.one (show Kd.M (Kd.int .u8) _ _ _ 239 [.int .u8 239] from rfl) (Reps.one (show Kd.M (Kd.int .u8) _ _ _ 191 [.int .u8 191] from rfl) (Reps.one (show Kd.M (Kd.int .u8) _ _ _ 189 [.int .u8 189] from rfl) (Reps.none _ _))))); intro v132 w31 ho32 hb hg_ hnew_; clear hg_ hnew_; (first | rw [← Ny131.1] at ho32 | (simp only [Int.reduceToNat] at ho32; rw [← Ny131.1] at ho32)); have HO133 := aM (Kd.R_lower (Kd.R_new' (Kd.R_newM (M := fun k_ => (P0_ k_ ∨ w.heap.size ≤ k_)) ho32 (by first | exact HK.1.1 | exact (show Kept w _ (fun k_ => P0_ k_) from by repeat (first | (with_reducible first | exact HK.1 | apply Kept.alloc | apply Kept.drewN | apply Kept.drew) | exact HK.1)).1) (fun k_ h_ => .inr h_)) (Kd.R_lt (by (with_reducible repeat first | apply Kd.R_alloc | apply Kd.R_drewN | apply Kd.R_drew); exact HO_0.out))) (bwZ (by apply_rules (transparency := .reducible) [HB.1, bwA, bwN, bwD]))); replace HO_0 := aM (Kd.R_elder' (by (with_reducible repeat first | apply Kd.R_alloc | apply Kd.R_drewN | apply Kd.R_drew); exact HO_0.out) (Kd.R_base ho32) hb); replace HK := aM (Kept.below (S := (fun k_ => P0_ k_)) (by repeat (first | (with_reducible first | exact HK.1 | apply Kept.alloc | apply Kept.drewN | apply Kept.drew) | exact HK.1)) hb); replace HB := aM (bwP (by apply_rules (transparency := .reducible) [HB.1, bwA, bwN, bwD]) hb); clear hb ho32; obtain ⟨Ao34, co34, eo34⟩ := Kd.R_slice HO133.1; subst eo34) | ((with_reducible refine gate_builtin (b := .append) (xs := #[.tmp 8, .tmp 9]) rfl ?_); at_builtin; refine Kd.R_append_rows (Kd.int .u8) (w0 := w0) w0.heap.size rfl (.tmp 8) (.tmp 9) 45 5 (.int .u8 0) 1 rfl Try.underlying45 info5 rfl (by decide) (by omega) u9000_ l0 y131 _ _ _ (fun k_ => (P0_ k_ ∨ w.heap.size ≤ k_) ∧ some k_ ≠ (.slice Ao34 y131.length co34 : Value).ownBlock) (fun _ => False) rfl rfl ?aO ?aR (fun _ _ h => h) (fun _ h => h.elim) ?aF ?aB ?aS ?aL ?_; (case aR => repeat (first | exact (Kd.R_reads' HO133.1).2.2 | (with_reducible refine Kd.C_alloc ?_ _) | (with_reducible refine Kd.C_drewN ?_ _) | (with_reducible refine Kd.C_drew ?_))); (case aB => exact (by apply_rules (transparency := .reducible) [HB.1, bwA, bwN, bwD])); (case aF => exact (fun k_ hk => ⟨(.inr (Nat.le_trans (by first | exact HK.1.1 | exact (show Kept w _ (fun k_ => P0_ k_) from by repeat (first | (with_reducible first | exact HK.1 | apply Kept.alloc | apply Kept.drewN | apply Kept.drew) | exact HK.1)).1) hk)), Kd.fresh' (Kd.R_lt (by (with_reducible repeat first | apply Kd.R_alloc | apply Kd.R_drewN | apply Kd.R_drew); exact HO133.1)) k_ hk⟩)); (case aO => exact (by (with_reducible repeat first | apply Kd.R_alloc | apply Kd.R_drewN | apply Kd.R_drew); exact HO_0.out)); (case aS => exact (bwZ (by apply_rules (transparency := .reducible) [HB.1, bwA, bwN, bwD]))); (case aL => have := LMc30.out; omega); intro v135 w33 ho hb hg hat; rw [← Ny134.1] at ho; have n0_ := aM (Kd.R_after (ok := (fun k_ => (P0_ k_ ∨ w.heap.size ≤ k_))) (by (with_reducible repeat first | apply Kd.R_alloc | apply Kd.R_drewN | apply Kd.R_drew); exact Kd.R_mono HO133.1 (fun _ hk => ⟨hk.1.1, hk.2⟩)) hg hat); have n1_ := aM (hb); have n2_ := aM (Kept.of_grown (S := (fun k_ => P0_ k_)) hg (by repeat (first | (with_reducible first | exact HK.1 | apply Kept.alloc | apply Kept.drewN | apply Kept.drew) | exact HK.1)) (fun k_ e_ => (HO_0.out.1 k_ e_).1)); have n3_ := aM (ho); clear HO133; clear HB; clear HK; clear HO_0; have HO133 := n0_; have HB := n1_; have HK := n2_; have HO136 := n3_; clear n0_ n1_ n2_ n3_; clear ho hb hg hat))
  go_ret
  exact ⟨_, by first | rfl | (simp [errW_none, errW_some] <;> rfl) | (simp [*, errW_none, errW_some] <;> rfl), by (with_reducible repeat first | apply Kd.R_alloc | apply Kd.R_drewN | apply Kd.R_drew); exact Kd.R_mono HO136.1 (fun _ hk => hk.1), by apply_rules (transparency := .reducible) [HB.1, bwA, bwN, bwD], by repeat (first | (with_reducible first | exact HK.1 | apply Kept.alloc | apply Kept.drewN | apply Kept.drew) | exact HK.1)⟩
 rw [if_neg c30] at H
 exact absurd H (by simp)

/-! ### utf8_AppendRune: function 56 -/
def utf8_AppendRune.f (k : Nat) (l0 : List Int) (a1 : Int) : Option (List Int) := if ((a1) % 4294967296) ≤ 127 then (if l0.length < 140737488355328 then (some (l0 ++ [(a1) % 256])) else (none)) else ((utf8_appendRuneNonASCII.f k l0 a1).bind fun t140 => (some t140))
theorem utf8_AppendRune.mono : ∀ a0 a1 k, LeO (utf8_AppendRune.f k a0 a1) (utf8_AppendRune.f (k + 1) a0 a1) := by
 intro a0 a1 k
 unfold utf8_AppendRune.f
 repeat' first
   | (with_reducible exact utf8_appendRuneNonASCII.mono _ _ _)
   | (with_reducible exact LeO.refl _)
   | (with_reducible exact LeO.none _)
   | (with_reducible refine LeO.ite ?_ ?_)
   | (with_reducible refine LeO.bind ?_ (fun _ => ?_))
   | exact utf8_appendRuneNonASCII.mono _ _ _
   | exact LeO.none _
   | refine LeO.ite ?_ ?_
   | refine LeO.bind ?_ (fun _ => ?_)
set_option maxHeartbeats 8000000 in
set_option maxRecDepth 100000 in
theorem utf8_AppendRune.calls (k : Nat) (P0_ : Nat → Prop) (u9000_ : Value) (l0 : List Int) (a1 : Int) (r : List Int) (w0 w : World) (hB : Below w0.heap.size w0 w) (ho0 : Kd.R (Kd.int .u8) 5 w w0.heap.size P0_ u9000_ l0) (h : utf8_AppendRune.f k l0 a1 = some r) :
    Calls Try.prog 56 #[u9000_, .int .i32 a1] w fun e w' => ∃ v0_ : Value, e = .returned (v0_) ∧ Kd.R (Kd.int .u8) 5 w' w0.heap.size (fun k_ => (P0_ k_ ∨ w.heap.size ≤ k_)) v0_ r ∧ Below w0.heap.size w0 w' ∧ Kept w w' (fun k_ => P0_ k_) := by
 have HO0 := aM (show Kd.R (Kd.int .u8) 5 w w0.heap.size (fun k_ => (P0_ k_ ∨ w.heap.size ≤ k_)) u9000_ l0 from Kd.R_mono ho0 (fun k_ hk => (.inl hk)))
 have HK := aM (Kept.refl w (fun k_ => P0_ k_))
 have HW0 := aM hB.size
 have HB := aM hB
 clear hB
 have H : (if ((a1) % 4294967296) ≤ 127 then (if l0.length < 140737488355328 then (some (l0 ++ [(a1) % 256])) else (none)) else ((utf8_appendRuneNonASCII.f k l0 a1).bind fun t140 => (some t140))) = some r := h
 clear h
 by_cases c3 : ((a1) % 4294967296) ≤ 127
 ·rw [if_pos c3] at H
  have c3b0 : decide (((a1) % 4294967296) ≤ 127) = true := decide_eq_true c3
  clear c3
  by_cases c4 : l0.length < 140737488355328
  ·rw [if_pos c4] at H
   have LMc4 := aM c4
   clear c4
   obtain ⟨y137, hy137⟩ : ∃ y_ : List Int, y_ = (l0 ++ [(a1) % 256]) := ⟨_, rfl⟩
   replace H : (some y137) = some r := by first | (rw [hy137]; with_reducible exact H) | (have H2_ := (Option.bind_some _ _).symm.trans H; rw [hy137]; with_reducible exact H2_) | (have H2_ := (Option.bind_some _ _).symm.trans H; with_reducible exact H2_) | with_reducible exact H | (rw [hy137]; exact H) | exact H
   have Ny137 := aM hy137
   clear hy137
   obtain rfl := Option.some.inj H
   go_enter Try.func56, Try.ntmps56
   go_wp2_with (first | ((with_reducible refine gate_builtin (b := .append) (xs := #[.tmp 8, .tmp 11]) rfl ?_); at_builtin; refine Kd.R_append (Kd.int .u8) (w0 := w0) w0.heap.size rfl (.tmp 8) (.tmp 11) 45 5 (.int .u8 0) 1 rfl Try.underlying45 info5 rfl (by decide) (by omega) u9000_ l0 ((a1) % 256) [.int .u8 ((a1) % 256)] (fun k_ => (P0_ k_ ∨ w.heap.size ≤ k_)) (fun _ => False) rfl rfl ?aP (fun _ hk => hk.elim) ?aF ?aO ?aB ?aS ?aL ?_; (case aP => exact rfl); (case aB => exact (by apply_rules (transparency := .reducible) [HB.1, bwA, bwN, bwD])); (case aF => exact (fun k_ hk => (.inr (Nat.le_trans (by first | exact HK.1.1 | exact (show Kept w _ (fun k_ => P0_ k_) from by repeat (first | (with_reducible first | exact HK.1 | apply Kept.alloc | apply Kept.drewN | apply Kept.drew) | exact HK.1)).1) hk)))); (case aO => exact (by (with_reducible repeat first | apply Kd.R_alloc | apply Kd.R_drewN | apply Kd.R_drew); exact HO0.1)); (case aS => exact (bwZ (by apply_rules (transparency := .reducible) [HB.1, bwA, bwN, bwD]))); (case aL => have := LMc4.out; omega); intro v138 w5 ho hb hg hat; rw [← Ny137.1] at ho; have n0_ := aM (hb); have n1_ := aM (Kept.of_grown (S := (fun k_ => P0_ k_)) hg (by repeat (first | (with_reducible first | exact HK.1 | apply Kept.alloc | apply Kept.drewN | apply Kept.drew) | exact HK.1)) (fun k_ e_ => (HO0.1.1 k_ e_))); have n2_ := aM (ho); clear HB; clear HK; clear HO0; have HB := n0_; have HK := n1_; have HO139 := n2_; clear n0_ n1_ n2_; clear ho hb hg hat))
   go_ret
   exact ⟨_, rfl, by (with_reducible repeat first | apply Kd.R_alloc | apply Kd.R_drewN | apply Kd.R_drew); exact HO139.1, by apply_rules (transparency := .reducible) [HB.1, bwA, bwN, bwD], by repeat (first | (with_reducible first | exact HK.1 | apply Kept.alloc | apply Kept.drewN | apply Kept.drew) | exact HK.1)⟩
  rw [if_neg c4] at H
  exact absurd H (by simp)
 rw [if_neg c3] at H
 have c3b0 : decide (((a1) % 4294967296) ≤ 127) = false := decide_eq_false c3
 clear c3
 replace H := Option.bind_eq_some_iff.mp H
 obtain ⟨t140, A60, H⟩ := H
 replace H : (some t140) = some r := H
 have A6 := aM A60
 clear A60
 obtain rfl := Option.some.inj H
 obtain ⟨Ao7, co7, eo7⟩ := Kd.R_slice HO0.1
 subst eo7
 go_enter Try.func56, Try.ntmps56
 go_wp2_with (first | ((with_reducible refine gate_callee (f := 58) rfl ?_); refine goesL_ (some 15) rfl rfl Try.func58 (by kernel_rfl) rfl #[.slice Ao7 l0.length co7, .int .i32 a1] rfl (by (try simp only [List.map_toArray, List.map_cons, List.map_nil]); first | done | rfl) ?_; (with_reducible refine (utf8_appendRuneNonASCII.calls k (fun k_ => some k_ = (.slice Ao7 l0.length co7 : Value).ownBlock) (.slice Ao7 l0.length co7) l0 a1 t140 w0 _ ?side1 ?side2 A6.1).mono ?_); (case side1 => apply_rules (transparency := .reducible) [HB.1, bwA, bwN, bwD]); (case side2 => exact Kd.R_tight rfl HO0.1); rintro e w8 ⟨v141, rfl, ho0, hb, hkp⟩; refine ⟨_, rfl, ?_⟩; have n0_ := aM (Kd.R_mono (ok' := fun k_ => (P0_ k_ ∨ w.heap.size ≤ k_)) ho0 (fun k_ hk_ => Or.elim hk_ (fun hs_ => (HO0.1.1 k_ (hs_).symm)) (fun hn_ => (.inr (Nat.le_trans (by first | exact HK.1.1 | exact (show Kept w _ (fun k_ => P0_ k_) from by repeat (first | (with_reducible first | exact HK.1 | apply Kept.alloc | apply Kept.drewN | apply Kept.drew) | exact HK.1)).1) hn_))))); have n1_ := aM (Kept.then_ (S := (fun k_ => P0_ k_)) (by repeat (first | (with_reducible first | exact HK.1 | apply Kept.alloc | apply Kept.drewN | apply Kept.drew) | exact HK.1)) hkp (fun k_ hs_ => (fun e_ => (HO0.1.1 k_ e_.symm)) hs_)); have n2_ := aM (hb); clear HK; clear HB; clear HO0; have HO142 := n0_; have HK := n1_; have HB := n2_; clear n0_ n1_ n2_; (try clear hb); (try clear hkp); (try clear ho0)))
 go_ret
 exact ⟨_, rfl, by (with_reducible repeat first | apply Kd.R_alloc | apply Kd.R_drewN | apply Kd.R_drew); exact HO142.1, by apply_rules (transparency := .reducible) [HB.1, bwA, bwN, bwD], by repeat (first | (with_reducible first | exact HK.1 | apply Kept.alloc | apply Kept.drewN | apply Kept.drew) | exact HK.1)⟩

/-! ### unit_Encode: function 44 -/
def unit_Encode.l0 : Nat → List Int → List Int → Int → Int → Option (ByteArray)
  | 0, _, _, _, _ => none
  | k + 1, x3, x6, x7, x8 => if x8 < x7 then (if 0 ≤ x8 then (if x8 < (x6.length : Int) then ((utf8_ValidRune.f k (rd x6 x8)).bind fun t144 => (if t144 = true then ((utf8_AppendRune.f k x3 (rd x6 x8)).bind fun t145 => (unit_Encode.l0 k t145 x6 x7 (wrap64 (x8 + 1)))) else (unit_Encode.l0 k x3 x6 x7 (wrap64 (x8 + 1))))) else (none)) else (none)) else (some (strOfNums x3))
def unit_Encode.f (k : Nat) (l0 : List Int) : Option (ByteArray) := unit_Encode.l0 k ([] : List Int) l0 (l0.length : Int) 0
theorem unit_Encode.mono_l : ∀ k, (∀ y0 y1 y2 y3, LeO (unit_Encode.l0 k y0 y1 y2 y3) (unit_Encode.l0 (k + 1) y0 y1 y2 y3))
  | 0 => fun _ _ _ _ r h => by simp [unit_Encode.l0] at h
  | k + 1 => by
    have ih0 := unit_Encode.mono_l k
    · intro y0 y1 y2 y3
      unfold unit_Encode.l0
      repeat' first
      | (with_reducible exact ih0 _ _ _ _)
      | (with_reducible exact utf8_AppendRune.mono _ _ _)
      | (with_reducible exact utf8_ValidRune.mono _ _)
      | (with_reducible exact LeO.refl _)
      | (with_reducible exact LeO.none _)
      | (with_reducible refine LeO.ite ?_ ?_)
      | (with_reducible refine LeO.bind ?_ (fun _ => ?_))
      | exact ih0 _ _ _ _
      | exact utf8_AppendRune.mono _ _ _
      | exact utf8_ValidRune.mono _ _
      | exact LeO.none _
      | refine LeO.ite ?_ ?_
      | refine LeO.bind ?_ (fun _ => ?_)
theorem unit_Encode.mono : ∀ a0 k, LeO (unit_Encode.f k a0) (unit_Encode.f (k + 1) a0) := by
 intro a0 k
 have ih0 := unit_Encode.mono_l k
 unfold unit_Encode.f
 repeat' first
   | (with_reducible exact ih0 _ _ _ _)
   | (with_reducible exact utf8_AppendRune.mono _ _ _)
   | (with_reducible exact utf8_ValidRune.mono _ _)
   | (with_reducible exact LeO.refl _)
   | (with_reducible exact LeO.none _)
   | (with_reducible refine LeO.ite ?_ ?_)
   | (with_reducible refine LeO.bind ?_ (fun _ => ?_))
   | exact ih0 _ _ _ _
   | exact utf8_AppendRune.mono _ _ _
   | exact utf8_ValidRune.mono _ _
   | exact LeO.none _
   | refine LeO.ite ?_ ?_
   | refine LeO.bind ?_ (fun _ => ?_)
set_option maxHeartbeats 8000000 in
set_option maxRecDepth 100000 in
theorem unit_Encode.calls (k : Nat) (A0 : Option Addr) (c0 : Nat) (l0 : List Int) (r : ByteArray) (w : World) (hr0 : Kd.C (Kd.int .i32) w A0 l0.length l0) (hc0 : l0.length ≤ c0) (h : unit_Encode.f k l0 = some r) :
    Calls Try.prog 44 #[.slice A0 l0.length c0] w fun e w' => e = .returned (.string r) ∧ Below w.heap.size w w' := by
 have HR0 := aM hr0
 have HC0 := aM hc0
 clear hr0 hc0
 have HB := aM (Below.refl w.heap.size w)
 have H : (unit_Encode.l0 k ([] : List Int) l0 (l0.length : Int) 0) = some r := h
 clear h
 have H' := aM H
 clear H
 go_enter Try.func44, Try.ntmps44
 go_wp2
 go_loopg [3, 8] k (fun kq v3 v8 w' => ∃ (x3_1 : List Int) (x8_1 : Int), v8 = .int .i64 x8_1 ∧ Aside0 (unit_Encode.l0 kq x3_1 l0 (l0.length : Int) x8_1 = some r) ∧ Aside0 (kq ≤ k) ∧ Aside0 (Kd.R (Kd.int .u8) 5 w' w.heap.size (fun _ => True) v3 x3_1) ∧ Aside0 (Below w.heap.size w w'))
 case atStart => exact ⟨(([] : List Int)), (0), rfl, H', ⟨Nat.le_refl _⟩, ⟨by first | exact Kd.R_nil _ _ _ _ _ | exact Kd.N_nil _ _ _ _ _ | exact Kd.V_nil _ _ _ _ _ | exact Kd.Q_nil _ _ _ _ _ | exact Kd.S_nil _ _ _ _ _⟩, ⟨by apply_rules (transparency := .reducible) [HB.1, bwA, bwN, bwD]⟩⟩
 clear H'
 obtain ⟨x3_1, x8_1, rfl, HA, HK1, HO_3, HB⟩ := hrel
 obtain _ | k1 := gk
 ·exact absurd HA.1 (by simp [unit_Encode.l0])
 have H := HA.1
 clear HA
 simp only [unit_Encode.l0] at H
 by_cases c2 : x8_1 < (l0.length : Int)
 ·rw [if_pos c2] at H
  have c2b0 : decide (x8_1 < (l0.length : Int)) = true := decide_eq_true c2
  clear c2
  by_cases c3 : 0 ≤ x8_1
  ·rw [if_pos c3] at H
   have c3b0 : decide (0 ≤ x8_1) = true := decide_eq_true c3
   clear c3
   by_cases c4 : x8_1 < (l0.length : Int)
   ·rw [if_pos c4] at H
    have c4b0 : decide (x8_1 < (l0.length : Int)) = true := decide_eq_true c4
    clear c4
    replace H := Option.bind_eq_some_iff.mp H
    obtain ⟨t144, A50, H⟩ := H
    replace H : (if t144 = true then ((utf8_AppendRune.f k1 x3_1 (rd l0 x8_1)).bind fun t145 => (unit_Encode.l0 k1 t145 l0 (l0.length : Int) (wrap64 (x8_1 + 1)))) else (unit_Encode.l0 k1 x3_1 l0 (l0.length : Int) (wrap64 (x8_1 + 1)))) = some r := H
    have A5 := aM A50
    clear A50
    by_cases c6 : t144 = true
    ·subst c6
     replace H : ((utf8_AppendRune.f k1 x3_1 (rd l0 x8_1)).bind fun t145 => (unit_Encode.l0 k1 t145 l0 (l0.length : Int) (wrap64 (x8_1 + 1)))) = some r := by rw [if_pos rfl] at H; exact H
     replace H := Option.bind_eq_some_iff.mp H
     obtain ⟨t145, A70, H⟩ := H
     replace H : (unit_Encode.l0 k1 t145 l0 (l0.length : Int) (wrap64 (x8_1 + 1))) = some r := H
     have A7 := aM A70
     clear A70
     have H' := aM H
     clear H
     have p143 : 0 ≤ (x8_1 : Int) := of_decide_eq_true (by first | (with_reducible assumption) | assumption)
     have q143 : x8_1 < (l0.length : Int) := of_decide_eq_true (by first | (with_reducible assumption) | assumption)
     obtain ⟨ad143, e143, hx143_0⟩ := Kd.at_int HR0.out x8_1 p143 q143
     cases e143
     replace hx143_0 := (HB.1.cell (World.block_lt_of_cell? w _ hx143_0)).trans hx143_0
     replace p143 := eq_true p143
     replace q143 := eq_true q143
     go_wp2_with (first | ((with_reducible refine gate_callee (f := 55) rfl ?_); refine goesL_ (some 13) rfl rfl Try.func55 (by kernel_rfl) rfl #[.int .i32 (rd l0 x8_1)] rfl (by (try simp only [List.map_toArray, List.map_cons, List.map_nil]); first | done | rfl) ?_; (with_reducible refine (utf8_ValidRune.calls k1 (rd l0 x8_1) true _ A5.1).mono ?_); rintro e w' ⟨rfl, ⟨nd, rfl⟩⟩; refine ⟨_, rfl, ?_⟩; obtain ⟨Ao8, co8, eo8⟩ := Kd.R_slice HO_3.out; subst eo8) | ((with_reducible refine gate_callee (f := 56) rfl ?_); refine goesL_ (some 16) rfl rfl Try.func56 (by kernel_rfl) rfl #[.slice Ao8 x3_1.length co8, .int .i32 (rd l0 x8_1)] rfl (by (try simp only [List.map_toArray, List.map_cons, List.map_nil]); first | done | rfl) ?_; (with_reducible refine (utf8_AppendRune.calls k1 (fun k_ => some k_ = (.slice Ao8 x3_1.length co8 : Value).ownBlock) (.slice Ao8 x3_1.length co8) x3_1 (rd l0 x8_1) t145 w _ ?side1 ?side2 A7.1).mono ?_); (case side1 => apply_rules (transparency := .reducible) [HB.1, bwA, bwN, bwD]); (case side2 => exact Kd.R_tight rfl HO_3.out); rintro e w9 ⟨v146, rfl, ho0, hb, hkp⟩; refine ⟨_, rfl, ?_⟩; have n0_ := aM (Kd.R_mono (ok' := fun k_ => True) ho0 (fun k_ hk_ => trivial)); have n1_ := aM (hb); clear HB; clear HO_3; have HO147 := n0_; have HB := n1_; clear n0_ n1_; (try clear hb); (try clear hkp); (try clear ho0)))
     go_roundg k1
     case measure => have := HK1.out; omega
     case rel => exact ⟨(t145), (wrap64 (x8_1 + 1)), rfl, H', ⟨by have := HK1.out; omega⟩, ⟨by (with_reducible repeat first | apply Kd.R_alloc | apply Kd.R_drewN | apply Kd.R_drew); exact HO147.1⟩, ⟨by apply_rules (transparency := .reducible) [HB.1, bwA, bwN, bwD]⟩⟩
    replace c6 := Bool.eq_false_iff.mpr c6
    subst c6
    replace H : (unit_Encode.l0 k1 x3_1 l0 (l0.length : Int) (wrap64 (x8_1 + 1))) = some r := by rw [if_neg (show ¬ (false = true) by decide)] at H; exact H
    have H' := aM H
    clear H
    have p143 : 0 ≤ (x8_1 : Int) := of_decide_eq_true (by first | (with_reducible assumption) | assumption)
    have q143 : x8_1 < (l0.length : Int) := of_decide_eq_true (by first | (with_reducible assumption) | assumption)
    obtain ⟨ad143, e143, hx143_0⟩ := Kd.at_int HR0.out x8_1 p143 q143
    cases e143
    replace hx143_0 := (HB.1.cell (World.block_lt_of_cell? w _ hx143_0)).trans hx143_0
    replace p143 := eq_true p143
    replace q143 := eq_true q143
    go_wp2_with (first | ((with_reducible refine gate_callee (f := 55) rfl ?_); refine goesL_ (some 13) rfl rfl Try.func55 (by kernel_rfl) rfl #[.int .i32 (rd l0 x8_1)] rfl (by (try simp only [List.map_toArray, List.map_cons, List.map_nil]); first | done | rfl) ?_; (with_reducible refine (utf8_ValidRune.calls k1 (rd l0 x8_1) false _ A5.1).mono ?_); rintro e w' ⟨rfl, ⟨nd, rfl⟩⟩; refine ⟨_, rfl, ?_⟩))
    go_roundg k1
    case measure => have := HK1.out; omega
    case rel => exact ⟨(x3_1), (wrap64 (x8_1 + 1)), rfl, H', ⟨by have := HK1.out; omega⟩, ⟨by (with_reducible repeat first | apply Kd.R_alloc | apply Kd.R_drewN | apply Kd.R_drew); exact HO_3.out⟩, ⟨by apply_rules (transparency := .reducible) [HB.1, bwA, bwN, bwD]⟩⟩
   rw [if_neg c4] at H
   exact absurd H (by simp)
  rw [if_neg c3] at H
  exact absurd H (by simp)
 rw [if_neg c2] at H
 have c2b0 : decide (x8_1 < (l0.length : Int)) = false := decide_eq_false c2
 clear c2
 obtain rfl := Option.some.inj H
 have hcv10 := own_string (P := Try.prog) Try.underlying45 Try.underlying5 Try.underlying9 (Kd.own_of_R HO_3.out)
 go_wp2
 go_ret
 exact ⟨rfl, by apply_rules (transparency := .reducible) [HB.1, bwA, bwN, bwD]⟩

/-! ### bind_in: function 45 -/
def bind_in.l0 : Nat → Int → List (S78) → Int → Int → Option (Int)
  | 0, _, _, _, _ => none
  | k + 1, x1, x7, x8, x9 => if x9 < x8 then (if 0 ≤ x9 then (if x9 < (x7.length : Int) then (if ((rd_T78 x7 x9).f0) = x1 then (some ((rd_T78 x7 x9).f1)) else (bind_in.l0 k x1 x7 x8 (wrap64 (x9 + 1)))) else (none)) else (none)) else (some 40)
def bind_in.f (k : Nat) (l0 : List (S78)) (a1 : Int) : Option (Int) := bind_in.l0 k a1 l0 (l0.length : Int) 0
theorem bind_in.mono_l : ∀ k, (∀ y0 y1 y2 y3, LeO (bind_in.l0 k y0 y1 y2 y3) (bind_in.l0 (k + 1) y0 y1 y2 y3))
  | 0 => fun _ _ _ _ r h => by simp [bind_in.l0] at h
  | k + 1 => by
    have ih0 := bind_in.mono_l k
    · intro y0 y1 y2 y3
      unfold bind_in.l0
      repeat' first
      | (with_reducible exact ih0 _ _ _ _)
      | (with_reducible exact LeO.refl _)
      | (with_reducible exact LeO.none _)
      | (with_reducible refine LeO.ite ?_ ?_)
      | (with_reducible refine LeO.bind ?_ (fun _ => ?_))
      | exact ih0 _ _ _ _
      | exact LeO.none _
      | refine LeO.ite ?_ ?_
      | refine LeO.bind ?_ (fun _ => ?_)
theorem bind_in.mono : ∀ a0 a1 k, LeO (bind_in.f k a0 a1) (bind_in.f (k + 1) a0 a1) := by
 intro a0 a1 k
 have ih0 := bind_in.mono_l k
 unfold bind_in.f
 repeat' first
   | (with_reducible exact ih0 _ _ _ _)
   | (with_reducible exact LeO.refl _)
   | (with_reducible exact LeO.none _)
   | (with_reducible refine LeO.ite ?_ ?_)
   | (with_reducible refine LeO.bind ?_ (fun _ => ?_))
   | exact ih0 _ _ _ _
   | exact LeO.none _
   | refine LeO.ite ?_ ?_
   | refine LeO.bind ?_ (fun _ => ?_)
set_option maxHeartbeats 8000000 in
set_option maxRecDepth 100000 in
theorem bind_in.calls (k : Nat) (A0 : Option Addr) (c0 : Nat) (l0 : List (S78)) (a1 : Int) (r : Int) (w : World) (hr0 : Kd.C k78 w A0 l0.length l0) (hc0 : l0.length ≤ c0) (h : bind_in.f k l0 a1 = some r) :
    Calls Try.prog 45 #[.slice A0 l0.length c0, .int .i32 a1] w fun e w' => e = .returned (.int .i64 r) ∧ Below w.heap.size w w' := by
 have hu78 := Try.underlying78
 have HR0 := aM hr0
 have HC0 := aM hc0
 clear hr0 hc0
 have HB := aM (Below.refl w.heap.size w)
 have H : (bind_in.l0 k a1 l0 (l0.length : Int) 0) = some r := h
 clear h
 have H' := aM H
 clear H
 go_enter Try.func45, Try.ntmps45
 go_wp2
 go_loopg [9] k (fun kq v9 w' => ∃ (x9_1 : Int), v9 = .int .i64 x9_1 ∧ Aside0 (bind_in.l0 kq a1 l0 (l0.length : Int) x9_1 = some r) ∧ Aside0 (kq ≤ k) ∧ Aside0 (Below w.heap.size w w'))
 case atStart => exact ⟨(0), rfl, H', ⟨Nat.le_refl _⟩, ⟨by apply_rules (transparency := .reducible) [HB.1, bwA, bwN, bwD]⟩⟩
 clear H'
 obtain ⟨x9_1, rfl, HA, HK1, HB⟩ := hrel
 obtain _ | k1 := gk
 ·exact absurd HA.1 (by simp [bind_in.l0])
 have H := HA.1
 clear HA
 simp only [bind_in.l0] at H
 by_cases c3 : x9_1 < (l0.length : Int)
 ·rw [if_pos c3] at H
  have c3b0 : decide (x9_1 < (l0.length : Int)) = true := decide_eq_true c3
  clear c3
  by_cases c4 : 0 ≤ x9_1
  ·rw [if_pos c4] at H
   have c4b0 : decide (0 ≤ x9_1) = true := decide_eq_true c4
   clear c4
   by_cases c5 : x9_1 < (l0.length : Int)
   ·rw [if_pos c5] at H
    have c5b0 : decide (x9_1 < (l0.length : Int)) = true := decide_eq_true c5
    clear c5
    by_cases c6 : ((rd_T78 l0 x9_1).f0) = a1
    ·rw [if_pos c6] at H
     have c6b0 : (((rd_T78 l0 x9_1).f0) == a1) = true := beq_iff_eq.mpr c6
     have c6b1 : (((rd_T78 l0 x9_1).f0) != a1) = false := bne_eq_false_iff_eq.mpr c6
     clear c6
     obtain rfl := Option.some.inj H
     have p148 : 0 ≤ (x9_1 : Int) := of_decide_eq_true (by first | (with_reducible assumption) | assumption)
     have q148 : x9_1 < (l0.length : Int) := of_decide_eq_true (by first | (with_reducible assumption) | assumption)
     obtain ⟨ad148, e148, hx148_0, hx148_1⟩ := at_T78 HR0.out x9_1 p148 q148
     cases e148
     replace hx148_0 := (HB.1.cell (World.block_lt_of_cell? w _ hx148_0)).trans hx148_0
     replace hx148_1 := (HB.1.cell (World.block_lt_of_cell? w _ hx148_1)).trans hx148_1
     replace p148 := eq_true p148
     replace q148 := eq_true q148
     go_wp2_with (first | ((with_reducible refine gate_dst (N := 6) rfl ?_); refine box_event ?hg (N := 6) ?hd (cs := #[.int .i32 0, .int .i64 0]) (t := 78) ?hr ?_; (case hd => rfl); (case hg => rfl); (case hr => first | (go_simp; done) | (go_simp; rfl)); intro gb149 hg w7 hbox hb; have BK149 := aM (hbox); have GW149 := aM ((by rw [hg]; exact (bwZ (by apply_rules (transparency := .reducible) [HB.1, bwA, bwN, bwD])) : w.heap.size ≤ gb149)); have GE149 := aM ((by rw [hg]; exact (bwZ (by apply_rules (transparency := .reducible) [HB.1, bwA, bwN, bwD])) : w.heap.size ≤ gb149)); replace HB := aM (bwP (by apply_rules (transparency := .reducible) [HB.1, bwA, bwN, bwD]) hb); clear hb hbox hg; obtain ⟨z8_0, z8_1, z8_2, z8_3⟩ := bx2 BK149.1))
     go_ret
     exact ⟨rfl, by apply_rules (transparency := .reducible) [HB.1, bwA, bwN, bwD, bwS, GE149.1]⟩
    rw [if_neg c6] at H
    have c6b0 : (((rd_T78 l0 x9_1).f0) == a1) = false := beq_eq_false_iff_ne.mpr c6
    have c6b1 : (((rd_T78 l0 x9_1).f0) != a1) = true := bne_iff_ne.mpr c6
    have H' := aM H
    clear H
    have p148 : 0 ≤ (x9_1 : Int) := of_decide_eq_true (by first | (with_reducible assumption) | assumption)
    have q148 : x9_1 < (l0.length : Int) := of_decide_eq_true (by first | (with_reducible assumption) | assumption)
    obtain ⟨ad148, e148, hx148_0, hx148_1⟩ := at_T78 HR0.out x9_1 p148 q148
    cases e148
    replace hx148_0 := (HB.1.cell (World.block_lt_of_cell? w _ hx148_0)).trans hx148_0
    replace hx148_1 := (HB.1.cell (World.block_lt_of_cell? w _ hx148_1)).trans hx148_1
    replace p148 := eq_true p148
    replace q148 := eq_true q148
    go_wp2_with (first | ((with_reducible refine gate_dst (N := 6) rfl ?_); refine box_event ?hg (N := 6) ?hd (cs := #[.int .i32 0, .int .i64 0]) (t := 78) ?hr ?_; (case hd => rfl); (case hg => rfl); (case hr => first | (go_simp; done) | (go_simp; rfl)); intro gb149 hg w9 hbox hb; have BK149 := aM (hbox); have GW149 := aM ((by rw [hg]; exact (bwZ (by apply_rules (transparency := .reducible) [HB.1, bwA, bwN, bwD])) : w.heap.size ≤ gb149)); have GE149 := aM ((by rw [hg]; exact (bwZ (by apply_rules (transparency := .reducible) [HB.1, bwA, bwN, bwD])) : w.heap.size ≤ gb149)); replace HB := aM (bwP (by apply_rules (transparency := .reducible) [HB.1, bwA, bwN, bwD]) hb); clear hb hbox hg; obtain ⟨z10_0, z10_1, z10_2, z10_3⟩ := bx2 BK149.1))
    go_roundg k1
    case measure => have := HK1.out; omega
    case rel => exact ⟨(wrap64 (x9_1 + 1)), rfl, H', ⟨by have := HK1.out; omega⟩, ⟨by apply_rules (transparency := .reducible) [HB.1, bwA, bwN, bwD, bwS, GE149.1]⟩⟩
   rw [if_neg c5] at H
   exact absurd H (by simp)
  rw [if_neg c4] at H
  exact absurd H (by simp)
 rw [if_neg c3] at H
 have c3b0 : decide (x9_1 < (l0.length : Int)) = false := decide_eq_false c3
 clear c3
 obtain rfl := Option.some.inj H
 go_wp2
 go_ret
 exact ⟨rfl, by apply_rules (transparency := .reducible) [HB.1, bwA, bwN, bwD]⟩

/-! ### bind_metas: function 46 -/
def bind_metas.f  : Option ((List (S78))) := some (([(⟨98, 6⟩ : S78), (⟨102, 7⟩ : S78), (⟨100, 16⟩ : S78), (⟨60, 12⟩ : S78), (⟨62, 13⟩ : S78), (⟨119, 21⟩ : S78), (⟨121, 23⟩ : S78), (⟨116, 25⟩ : S78), (⟨117, 26⟩ : S78), (⟨108, 27⟩ : S78), (⟨99, 28⟩ : S78), (⟨112, 34⟩ : S78), (⟨110, 35⟩ : S78)] : List (S78)))
set_option maxHeartbeats 8000000 in
set_option maxRecDepth 100000 in
theorem bind_metas.calls  (r : List (S78)) (w : World) (h : bind_metas.f  = some r) :
    Calls Try.prog 46 #[] w fun e w' => ∃ v0_ : Value, e = .returned (v0_) ∧ Kd.R k78 78 w' w.heap.size (fun _ => True) v0_ r ∧ Below w.heap.size w w' := by
 have hu78 := Try.underlying78
 have HB := aM (Below.refl w.heap.size w)
 have H : (some (([(⟨98, 6⟩ : S78), (⟨102, 7⟩ : S78), (⟨100, 16⟩ : S78), (⟨60, 12⟩ : S78), (⟨62, 13⟩ : S78), (⟨119, 21⟩ : S78), (⟨121, 23⟩ : S78), (⟨116, 25⟩ : S78), (⟨117, 26⟩ : S78), (⟨108, 27⟩ : S78), (⟨99, 28⟩ : S78), (⟨112, 34⟩ : S78), (⟨110, 35⟩ : S78)] : List (S78)))) = some r := h
 clear h
 obtain ⟨y150, hy150⟩ : ∃ y_ : List (S78), y_ = (([(⟨98, 6⟩ : S78), (⟨102, 7⟩ : S78), (⟨100, 16⟩ : S78), (⟨60, 12⟩ : S78), (⟨62, 13⟩ : S78), (⟨119, 21⟩ : S78), (⟨121, 23⟩ : S78), (⟨116, 25⟩ : S78), (⟨117, 26⟩ : S78), (⟨108, 27⟩ : S78), (⟨99, 28⟩ : S78), (⟨112, 34⟩ : S78), (⟨110, 35⟩ : S78)] : List (S78))) := ⟨_, rfl⟩
 replace H : (some y150) = some r := by first | (rw [hy150]; with_reducible exact H) | (have H2_ := (Option.bind_some _ _).symm.trans H; rw [hy150]; with_reducible exact H2_) | (have H2_ := (Option.bind_some _ _).symm.trans H; with_reducible exact H2_) | with_reducible exact H | (rw [hy150]; exact H) | exact H
 have Ny150 := aM hy150
 clear hy150
 obtain rfl := Option.some.inj H
 go_enter Try.func46, Try.ntmps46
 go_wp2_with (first | ((with_reducible refine gate_dst (N := 14) rfl ?_); refine Kd.R_lit k78 _ 78 ?hg (N := 14) ?hd (xs := ([(⟨98, 6⟩ : S78), (⟨102, 7⟩ : S78), (⟨100, 16⟩ : S78), (⟨60, 12⟩ : S78), (⟨62, 13⟩ : S78), (⟨119, 21⟩ : S78), (⟨121, 23⟩ : S78), (⟨116, 25⟩ : S78), (⟨117, 26⟩ : S78), (⟨108, 27⟩ : S78), (⟨99, 28⟩ : S78), (⟨112, 34⟩ : S78), (⟨110, 35⟩ : S78)] : List (S78))) (inner := [.int .i32 98, .int .i64 6, .int .i32 102, .int .i64 7, .int .i32 100, .int .i64 16, .int .i32 60, .int .i64 12, .int .i32 62, .int .i64 13, .int .i32 119, .int .i64 21, .int .i32 121, .int .i64 23, .int .i32 116, .int .i64 25, .int .i32 117, .int .i64 26, .int .i32 108, .int .i64 27, .int .i32 99, .int .i64 28, .int .i32 112, .int .i64 34, .int .i32 110, .int .i64 35]) (ok := fun _ => True) (okp := fun _ => True) ?hr ?hp (fun _ hk => hk) trivial (Below.refl _ _) (Nat.le_refl _) (by simp) ?_; (case hd => rfl); (case hg => rfl); (case hr => first | (go_simp; done) | (go_simp; rfl)); (case hp => exact (Reps.c2 (show Kd.M k78 _ _ _ (⟨98, 6⟩ : S78) [.int .i32 98, .int .i64 6] from (k78_mkM _ _ _ (⟨98, 6⟩ : S78) )) (Reps.c2 (show Kd.M k78 _ _ _ (⟨102, 7⟩ : S78) [.int .i32 102, .int .i64 7] from (k78_mkM _ _ _ (⟨102, 7⟩ : S78) )) (Reps.c2 (show Kd.M k78 _ _ _ (⟨100, 16⟩ : S78) [.int .i32 100, .int .i64 16] from (k78_mkM _ _ _ (⟨100, 16⟩ : S78) )) (Reps.c2 (show Kd.M k78 _ _ _ (⟨60, 12⟩ : S78) [.int .i32 60, .int .i64 12] from (k78_mkM _ _ _ (⟨60, 12⟩ : S78) )) (Reps.c2 (show Kd.M k78 _ _ _ (⟨62, 13⟩ : S78) [.int .i32 62, .int .i64 13] from (k78_mkM _ _ _ (⟨62, 13⟩ : S78) )) (Reps.c2 (show Kd.M k78 _ _ _ (⟨119, 21⟩ : S78) [.int .i32 119, .int .i64 21] from (k78_mkM _ _ _ (⟨119, 21⟩ : S78) )) (Reps.c2 (show Kd.M k78 _ _ _ (⟨121, 23⟩ : S78) [.int .i32 121, .int .i64 23] from (k78_mkM _ _ _ (⟨121, 23⟩ : S78) )) (Reps.c2 (show Kd.M k78 _ _ _ (⟨116, 25⟩ : S78) [.int .i32 116, .int .i64 25] from (k78_mkM _ _ _ (⟨116, 25⟩ : S78) )) (Reps.c2 (show Kd.M k78 _ _ _ (⟨117, 26⟩ : S78) [.int .i32 117, .int .i64 26] from (k78_mkM _ _ _ (⟨117, 26⟩ : S78) )) (Reps.c2 (show Kd.M k78 _ _ _ (⟨108, 27⟩ : S78) [.int .i32 108, .int .i64 27] from (k78_mkM _ _ _ (⟨108, 27⟩ : S78) )) (Reps.c2 (show Kd.M k78 _ _ _ (⟨99, 28⟩ : S78) [.int .i32 99, .int .i64 28] from (k78_mkM _ _ _ (⟨99, 28⟩ : S78) )) (Reps.c2 (show Kd.M k78 _ _ _ (⟨112, 34⟩ : S78) [.int .i32 112, .int .i64 34] from (k78_mkM _ _ _ (⟨112, 34⟩ : S78) )) (Reps.c2 (show Kd.M k78 _ _ _ (⟨110, 35⟩ : S78) [.int .i32 110, .int .i64 35] from (k78_mkM _ _ _ (⟨110, 35⟩ : S78) )) (Reps.none _ _))))))))))))))); intro v151 w1 ho2 hb hg_ hnew_; clear hg_ hnew_; (first | rw [← Ny150.1] at ho2 | (simp only [Int.reduceToNat] at ho2; rw [← Ny150.1] at ho2)); have HO152 := aM (Kd.R_lower ho2 (bwZ (by apply_rules (transparency := .reducible) [HB.1, bwA, bwN, bwD]))); replace HB := aM (bwP (by apply_rules (transparency := .reducible) [HB.1, bwA, bwN, bwD]) hb); clear hb ho2))
 go_ret
 exact ⟨_, rfl, by (with_reducible repeat first | apply Kd.R_alloc | apply Kd.R_drewN | apply Kd.R_drew); exact HO152.1, by apply_rules (transparency := .reducible) [HB.1, bwA, bwN, bwD]⟩

/-! ### bind_controls: function 47 -/
def bind_controls.f  : Option ((List (S78))) := some (([(⟨65, 8⟩ : S78), (⟨69, 9⟩ : S78), (⟨66, 4⟩ : S78), (⟨70, 5⟩ : S78), (⟨80, 10⟩ : S78), (⟨78, 11⟩ : S78), (⟨68, 14⟩ : S78), (⟨72, 15⟩ : S78), (⟨63, 15⟩ : S78), (⟨71, 37⟩ : S78), (⟨74, 2⟩ : S78), (⟨77, 3⟩ : S78), (⟨75, 18⟩ : S78), (⟨85, 19⟩ : S78), (⟨76, 38⟩ : S78), (⟨82, 36⟩ : S78), (⟨84, 24⟩ : S78), (⟨87, 20⟩ : S78), (⟨89, 22⟩ : S78), (⟨95, 32⟩ : S78), (⟨94, 33⟩ : S78), (⟨64, 29⟩ : S78), (⟨73, 1⟩ : S78)] : List (S78)))
set_option maxHeartbeats 8000000 in
set_option maxRecDepth 100000 in
theorem bind_controls.calls  (r : List (S78)) (w : World) (h : bind_controls.f  = some r) :
    Calls Try.prog 47 #[] w fun e w' => ∃ v0_ : Value, e = .returned (v0_) ∧ Kd.R k78 78 w' w.heap.size (fun _ => True) v0_ r ∧ Below w.heap.size w w' := by
 have hu78 := Try.underlying78
 have HB := aM (Below.refl w.heap.size w)
 have H : (some (([(⟨65, 8⟩ : S78), (⟨69, 9⟩ : S78), (⟨66, 4⟩ : S78), (⟨70, 5⟩ : S78), (⟨80, 10⟩ : S78), (⟨78, 11⟩ : S78), (⟨68, 14⟩ : S78), (⟨72, 15⟩ : S78), (⟨63, 15⟩ : S78), (⟨71, 37⟩ : S78), (⟨74, 2⟩ : S78), (⟨77, 3⟩ : S78), (⟨75, 18⟩ : S78), (⟨85, 19⟩ : S78), (⟨76, 38⟩ : S78), (⟨82, 36⟩ : S78), (⟨84, 24⟩ : S78), (⟨87, 20⟩ : S78), (⟨89, 22⟩ : S78), (⟨95, 32⟩ : S78), (⟨94, 33⟩ : S78), (⟨64, 29⟩ : S78), (⟨73, 1⟩ : S78)] : List (S78)))) = some r := h
 clear h
 obtain ⟨y153, hy153⟩ : ∃ y_ : List (S78), y_ = (([(⟨65, 8⟩ : S78), (⟨69, 9⟩ : S78), (⟨66, 4⟩ : S78), (⟨70, 5⟩ : S78), (⟨80, 10⟩ : S78), (⟨78, 11⟩ : S78), (⟨68, 14⟩ : S78), (⟨72, 15⟩ : S78), (⟨63, 15⟩ : S78), (⟨71, 37⟩ : S78), (⟨74, 2⟩ : S78), (⟨77, 3⟩ : S78), (⟨75, 18⟩ : S78), (⟨85, 19⟩ : S78), (⟨76, 38⟩ : S78), (⟨82, 36⟩ : S78), (⟨84, 24⟩ : S78), (⟨87, 20⟩ : S78), (⟨89, 22⟩ : S78), (⟨95, 32⟩ : S78), (⟨94, 33⟩ : S78), (⟨64, 29⟩ : S78), (⟨73, 1⟩ : S78)] : List (S78))) := ⟨_, rfl⟩
 replace H : (some y153) = some r := by first | (rw [hy153]; with_reducible exact H) | (have H2_ := (Option.bind_some _ _).symm.trans H; rw [hy153]; with_reducible exact H2_) | (have H2_ := (Option.bind_some _ _).symm.trans H; with_reducible exact H2_) | with_reducible exact H | (rw [hy153]; exact H) | exact H
 have Ny153 := aM hy153
 clear hy153
 obtain rfl := Option.some.inj H
 go_enter Try.func47, Try.ntmps47
 go_wp2_with (first | ((with_reducible refine gate_dst (N := 24) rfl ?_); refine Kd.R_lit k78 _ 78 ?hg (N := 24) ?hd (xs := ([(⟨65, 8⟩ : S78), (⟨69, 9⟩ : S78), (⟨66, 4⟩ : S78), (⟨70, 5⟩ : S78), (⟨80, 10⟩ : S78), (⟨78, 11⟩ : S78), (⟨68, 14⟩ : S78), (⟨72, 15⟩ : S78), (⟨63, 15⟩ : S78), (⟨71, 37⟩ : S78), (⟨74, 2⟩ : S78), (⟨77, 3⟩ : S78), (⟨75, 18⟩ : S78), (⟨85, 19⟩ : S78), (⟨76, 38⟩ : S78), (⟨82, 36⟩ : S78), (⟨84, 24⟩ : S78), (⟨87, 20⟩ : S78), (⟨89, 22⟩ : S78), (⟨95, 32⟩ : S78), (⟨94, 33⟩ : S78), (⟨64, 29⟩ : S78), (⟨73, 1⟩ : S78)] : List (S78))) (inner := [.int .i32 65, .int .i64 8, .int .i32 69, .int .i64 9, .int .i32 66, .int .i64 4, .int .i32 70, .int .i64 5, .int .i32 80, .int .i64 10, .int .i32 78, .int .i64 11, .int .i32 68, .int .i64 14, .int .i32 72, .int .i64 15, .int .i32 63, .int .i64 15, .int .i32 71, .int .i64 37, .int .i32 74, .int .i64 2, .int .i32 77, .int .i64 3, .int .i32 75, .int .i64 18, .int .i32 85, .int .i64 19, .int .i32 76, .int .i64 38, .int .i32 82, .int .i64 36, .int .i32 84, .int .i64 24, .int .i32 87, .int .i64 20, .int .i32 89, .int .i64 22, .int .i32 95, .int .i64 32, .int .i32 94, .int .i64 33, .int .i32 64, .int .i64 29, .int .i32 73, .int .i64 1]) (ok := fun _ => True) (okp := fun _ => True) ?hr ?hp (fun _ hk => hk) trivial (Below.refl _ _) (Nat.le_refl _) (by simp) ?_; (case hd => rfl); (case hg => rfl); (case hr => first | (go_simp; done) | (go_simp; rfl)); (case hp => exact (Reps.c2 (show Kd.M k78 _ _ _ (⟨65, 8⟩ : S78) [.int .i32 65, .int .i64 8] from (k78_mkM _ _ _ (⟨65, 8⟩ : S78) )) (Reps.c2 (show Kd.M k78 _ _ _ (⟨69, 9⟩ : S78) [.int .i32 69, .int .i64 9] from (k78_mkM _ _ _ (⟨69, 9⟩ : S78) )) (Reps.c2 (show Kd.M k78 _ _ _ (⟨66, 4⟩ : S78) [.int .i32 66, .int .i64 4] from (k78_mkM _ _ _ (⟨66, 4⟩ : S78) )) (Reps.c2 (show Kd.M k78 _ _ _ (⟨70, 5⟩ : S78) [.int .i32 70, .int .i64 5] from (k78_mkM _ _ _ (⟨70, 5⟩ : S78) )) (Reps.c2 (show Kd.M k78 _ _ _ (⟨80, 10⟩ : S78) [.int .i32 80, .int .i64 10] from (k78_mkM _ _ _ (⟨80, 10⟩ : S78) )) (Reps.c2 (show Kd.M k78 _ _ _ (⟨78, 11⟩ : S78) [.int .i32 78, .int .i64 11] from (k78_mkM _ _ _ (⟨78, 11⟩ : S78) )) (Reps.c2 (show Kd.M k78 _ _ _ (⟨68, 14⟩ : S78) [.int .i32 68, .int .i64 14] from (k78_mkM _ _ _ (⟨68, 14⟩ : S78) )) (Reps.c2 (show Kd.M k78 _ _ _ (⟨72, 15⟩ : S78) [.int .i32 72, .int .i64 15] from (k78_mkM _ _ _ (⟨72, 15⟩ : S78) )) (Reps.c2 (show Kd.M k78 _ _ _ (⟨63, 15⟩ : S78) [.int .i32 63, .int .i64 15] from (k78_mkM _ _ _ (⟨63, 15⟩ : S78) )) (Reps.c2 (show Kd.M k78 _ _ _ (⟨71, 37⟩ : S78) [.int .i32 71, .int .i64 37] from (k78_mkM _ _ _ (⟨71, 37⟩ : S78) )) (Reps.c2 (show Kd.M k78 _ _ _ (⟨74, 2⟩ : S78) [.int .i32 74, .int .i64 2] from (k78_mkM _ _ _ (⟨74, 2⟩ : S78) )) (Reps.c2 (show Kd.M k78 _ _ _ (⟨77, 3⟩ : S78) [.int .i32 77, .int .i64 3] from (k78_mkM _ _ _ (⟨77, 3⟩ : S78) )) (Reps.c2 (show Kd.M k78 _ _ _ (⟨75, 18⟩ : S78) [.int .i32 75, .int .i64 18] from (k78_mkM _ _ _ (⟨75, 18⟩ : S78) )) (Reps.c2 (show Kd.M k78 _ _ _ (⟨85, 19⟩ : S78) [.int .i32 85, .int .i64 19] from (k78_mkM _ _ _ (⟨85, 19⟩ : S78) )) (Reps.c2 (show Kd.M k78 _ _ _ (⟨76, 38⟩ : S78) [.int .i32 76, .int .i64 38] from (k78_mkM _ _ _ (⟨76, 38⟩ : S78) )) (Reps.c2 (show Kd.M k78 _ _ _ (⟨82, 36⟩ : S78) [.int .i32 82, .int .i64 36] from (k78_mkM _ _ _ (⟨82, 36⟩ : S78) )) (Reps.c2 (show Kd.M k78 _ _ _ (⟨84, 24⟩ : S78) [.int .i32 84, .int .i64 24] from (k78_mkM _ _ _ (⟨84, 24⟩ : S78) )) (Reps.c2 (show Kd.M k78 _ _ _ (⟨87, 20⟩ : S78) [.int .i32 87, .int .i64 20] from (k78_mkM _ _ _ (⟨87, 20⟩ : S78) )) (Reps.c2 (show Kd.M k78 _ _ _ (⟨89, 22⟩ : S78) [.int .i32 89, .int .i64 22] from (k78_mkM _ _ _ (⟨89, 22⟩ : S78) )) (Reps.c2 (show Kd.M k78 _ _ _ (⟨95, 32⟩ : S78) [.int .i32 95, .int .i64 32] from (k78_mkM _ _ _ (⟨95, 32⟩ : S78) )) (Reps.c2 (show Kd.M k78 _ _ _ (⟨94, 33⟩ : S78) [.int .i32 94, .int .i64 33] from (k78_mkM _ _ _ (⟨94, 33⟩ : S78) )) (Reps.c2 (show Kd.M k78 _ _ _ (⟨64, 29⟩ : S78) [.int .i32 64, .int .i64 29] from (k78_mkM _ _ _ (⟨64, 29⟩ : S78) )) (Reps.c2 (show Kd.M k78 _ _ _ (⟨73, 1⟩ : S78) [.int .i32 73, .int .i64 1] from (k78_mkM _ _ _ (⟨73, 1⟩ : S78) )) (Reps.none _ _))))))))))))))))))))))))); intro v154 w1 ho2 hb hg_ hnew_; clear hg_ hnew_; (first | rw [← Ny153.1] at ho2 | (simp only [Int.reduceToNat] at ho2; rw [← Ny153.1] at ho2)); have HO155 := aM (Kd.R_lower ho2 (bwZ (by apply_rules (transparency := .reducible) [HB.1, bwA, bwN, bwD]))); replace HB := aM (bwP (by apply_rules (transparency := .reducible) [HB.1, bwA, bwN, bwD]) hb); clear hb ho2))
 go_ret
 exact ⟨_, rfl, by (with_reducible repeat first | apply Kd.R_alloc | apply Kd.R_drewN | apply Kd.R_drew); exact HO155.1, by apply_rules (transparency := .reducible) [HB.1, bwA, bwN, bwD]⟩

end Go.Proofs.Ytgkaiagoogjibaa.PBind
