-- written by pp.py of this session's wip: the kit's print, turned in a few places, over this claim's program
import Derived.Test.YtgkaiagoogjibaaPBindx0
import Derived.Test.YtgkaiagoogjibaaPBindx11
namespace Go.Proofs.Ytgkaiagoogjibaa.PBind
open Go.RowKit Go.Proofs.YtgkaiagoogjibaaW.PrintWords Go.Proofs.YtgkaiagoogjibaaW.PrintLast Go.Proofs.YtgkaiagoogjibaaW.PrintMore
open Go.Proofs.YtgkaiagoogjibaaW.PrintWords renaming blk_drewN → bkN, blk_drew → bkD, blk_alloc → bkA, below_alloc → bwA, pw_below_drewN → bwN, below_drew1 → bwD, below_size → bwZ, below_step → bwP, blk_below → bkB
open Go.Proofs.YtgkaiagoogjibaaW.PrintWords.Aside0 renaming mk → aM
attribute [local go_sem] max2_int min2_int max_two min_two max_three min_three max_four min_four   -- for this text's walks alone
set_option linter.unusedVariables false
set_option linter.unusedSimpArgs false

/-! ### bodkinref01_scalar: function 59 -/
def bodkinref01_scalar.f (a0 : Int) : Option (Bool) := if a0 ≥ 0 then (if a0 ≤ 1114111 then (if a0 < 55296 then (some true) else (some (decide (a0 > 57343)))) else (some false)) else (some false)
set_option maxHeartbeats 8000000 in
set_option maxRecDepth 100000 in
theorem bodkinref01_scalar.calls (a0 : Int) (r : Bool) (w : World) (h : bodkinref01_scalar.f a0 = some r) :
    Calls Try.prog 59 #[.int .i32 a0] w fun e w' => e = .returned (.bool r) ∧ Drawn0 w w' := by
 have H : (if a0 ≥ 0 then (if a0 ≤ 1114111 then (if a0 < 55296 then (some true) else (some (decide (a0 > 57343)))) else (some false)) else (some false)) = some r := h
 clear h
 by_cases c2 : a0 ≥ 0
 ·rw [if_pos c2] at H
  have c2b0 : decide (0 ≤ a0) = true := decide_eq_true c2
  clear c2
  by_cases c3 : a0 ≤ 1114111
  ·rw [if_pos c3] at H
   have c3b0 : decide (a0 ≤ 1114111) = true := decide_eq_true c3
   clear c3
   by_cases c4 : a0 < 55296
   ·rw [if_pos c4] at H
    have c4b0 : decide (a0 < 55296) = true := decide_eq_true c4
    clear c4
    obtain rfl := Option.some.inj H
    go_enter Try.func59, Try.ntmps59
    go_wp2
    go_ret
    exact ⟨by first | rfl | (simp; done) | (simp [*]; done), by repeat (first | exact Drawn0.refl _ | apply Drawn0.step)⟩
   rw [if_neg c4] at H
   have c4b0 : decide (a0 < 55296) = false := decide_eq_false c4
   clear c4
   obtain rfl := Option.some.inj H
   go_enter Try.func59, Try.ntmps59
   go_wp2
   go_ret
   exact ⟨by first | rfl | (simp; done) | (simp [*]; done), by repeat (first | exact Drawn0.refl _ | apply Drawn0.step)⟩
  rw [if_neg c3] at H
  have c3b0 : decide (a0 ≤ 1114111) = false := decide_eq_false c3
  clear c3
  obtain rfl := Option.some.inj H
  go_enter Try.func59, Try.ntmps59
  go_wp2
  go_ret
  exact ⟨by first | rfl | (simp; done) | (simp [*]; done), by repeat (first | exact Drawn0.refl _ | apply Drawn0.step)⟩
 rw [if_neg c2] at H
 have c2b0 : decide (0 ≤ a0) = false := decide_eq_false c2
 clear c2
 obtain rfl := Option.some.inj H
 go_enter Try.func59, Try.ntmps59
 go_wp2
 go_ret
 exact ⟨by first | rfl | (simp; done) | (simp [*]; done), by repeat (first | exact Drawn0.refl _ | apply Drawn0.step)⟩

/-! ### bodkinref01_size: function 61 -/
def bodkinref01_size.f (a0 : Int) : Option (Int) := if a0 < 128 then (some 1) else (if a0 < 2048 then (some 2) else (if a0 < 65536 then (some 3) else (some 4)))
set_option maxHeartbeats 8000000 in
set_option maxRecDepth 100000 in
theorem bodkinref01_size.calls (a0 : Int) (r : Int) (w : World) (h : bodkinref01_size.f a0 = some r) :
    Calls Try.prog 61 #[.int .i32 a0] w fun e w' => e = .returned (.int .i64 r) ∧ Drawn0 w w' := by
 have H : (if a0 < 128 then (some 1) else (if a0 < 2048 then (some 2) else (if a0 < 65536 then (some 3) else (some 4)))) = some r := h
 clear h
 by_cases c2 : a0 < 128
 ·rw [if_pos c2] at H
  have c2b0 : decide (a0 < 128) = true := decide_eq_true c2
  clear c2
  obtain rfl := Option.some.inj H
  go_enter Try.func61, Try.ntmps61
  go_wp2
  go_ret
  exact ⟨by first | rfl | (simp; done) | (simp [*]; done), by repeat (first | exact Drawn0.refl _ | apply Drawn0.step)⟩
 rw [if_neg c2] at H
 have c2b0 : decide (a0 < 128) = false := decide_eq_false c2
 clear c2
 by_cases c3 : a0 < 2048
 ·rw [if_pos c3] at H
  have c3b0 : decide (a0 < 2048) = true := decide_eq_true c3
  clear c3
  obtain rfl := Option.some.inj H
  go_enter Try.func61, Try.ntmps61
  go_wp2
  go_ret
  exact ⟨by first | rfl | (simp; done) | (simp [*]; done), by repeat (first | exact Drawn0.refl _ | apply Drawn0.step)⟩
 rw [if_neg c3] at H
 have c3b0 : decide (a0 < 2048) = false := decide_eq_false c3
 clear c3
 by_cases c4 : a0 < 65536
 ·rw [if_pos c4] at H
  have c4b0 : decide (a0 < 65536) = true := decide_eq_true c4
  clear c4
  obtain rfl := Option.some.inj H
  go_enter Try.func61, Try.ntmps61
  go_wp2
  go_ret
  exact ⟨by first | rfl | (simp; done) | (simp [*]; done), by repeat (first | exact Drawn0.refl _ | apply Drawn0.step)⟩
 rw [if_neg c4] at H
 have c4b0 : decide (a0 < 65536) = false := decide_eq_false c4
 clear c4
 obtain rfl := Option.some.inj H
 go_enter Try.func61, Try.ntmps61
 go_wp2
 go_ret
 exact ⟨by first | rfl | (simp; done) | (simp [*]; done), by repeat (first | exact Drawn0.refl _ | apply Drawn0.step)⟩

/-! ### bodkinref01_encoding: function 60 -/
def bodkinref01_encoding.l0 : Nat → Int → Int → List Int → Int → Option (ByteArray)
  | 0, _, _, _, _ => none
  | k + 1, x0, x3, x4, x5 => if x5 > 0 then (if 0 ≤ x5 then (if x5 < (x4.length : Int) then (bodkinref01_encoding.l0 k (wrap32 (Int.tdiv x0 64)) x3 (x4.set (x5 : Int).toNat ((wrap32 (128 + (Int.tmod x0 64))) % 256)) (wrap64 (x5 - 1))) else (none)) else (none)) else ((some (([0, 0, 192, 224, 240] : List Int) : List Int)).bind fun y287 => (if 0 ≤ x3 then (if x3 < (y287.length : Int) then (if 0 < (x4.length : Int) then (some (strOfNums (x4.set (0 : Int).toNat ((wrap64 ((rd y287 x3) + (wrap64 (x0)))) % 256)))) else (none)) else (none)) else (none)))
def bodkinref01_encoding.f (k : Nat) (a0 : Int) : Option (ByteArray) := (bodkinref01_size.f a0).bind fun t279 => (if t279 = 1 then (some (strOfNums (([(a0) % 256] : List Int)))) else (if 0 ≤ t279 then (if (t279 : Int).toNat ≤ 281474976710656 then (bodkinref01_encoding.l0 k a0 t279 (List.replicate (t279 : Int).toNat 0) (wrap64 (t279 - 1))) else (none)) else (none)))
theorem bodkinref01_encoding.mono_l : ∀ k, (∀ y0 y1 y2 y3, LeO (bodkinref01_encoding.l0 k y0 y1 y2 y3) (bodkinref01_encoding.l0 (k + 1) y0 y1 y2 y3))
  | 0 => fun _ _ _ _ r h => by simp [bodkinref01_encoding.l0] at h
  | k + 1 => by
    have ih0 := bodkinref01_encoding.mono_l k
    · intro y0 y1 y2 y3
      unfold bodkinref01_encoding.l0
      repeat' first
      | (with_reducible exact ih0 _ _ _ _)
      | (with_reducible exact LeO.refl _)
      | (with_reducible exact LeO.none _)
      | (with_reducible refine LeO.ite ?_ ?_)
      | (with_reducible refine LeO.bind ?_ (fun _ => ?_))
      | exact ih0 _ _ _ _
      | exact LeO.none _
      | refine LeO.ite ?_ ?_
      | refine LeO.bind ?_ (fun _ => ?_)
theorem bodkinref01_encoding.mono : ∀ a0 k, LeO (bodkinref01_encoding.f k a0) (bodkinref01_encoding.f (k + 1) a0) := by
 intro a0 k
 have ih0 := bodkinref01_encoding.mono_l k
 unfold bodkinref01_encoding.f
 repeat' first
   | (with_reducible exact ih0 _ _ _ _)
   | (with_reducible exact LeO.refl _)
   | (with_reducible exact LeO.none _)
   | (with_reducible refine LeO.ite ?_ ?_)
   | (with_reducible refine LeO.bind ?_ (fun _ => ?_))
   | exact ih0 _ _ _ _
   | exact LeO.none _
   | refine LeO.ite ?_ ?_
   | refine LeO.bind ?_ (fun _ => ?_)
set_option maxHeartbeats 8000000 in
set_option maxRecDepth 100000 in
theorem bodkinref01_encoding.calls (k : Nat) (a0 : Int) (r : ByteArray) (w : World) (h : bodkinref01_encoding.f k a0 = some r) :
    Calls Try.prog 60 #[.int .i32 a0] w fun e w' => e = .returned (.string r) ∧ Below w.heap.size w w' := by
 have HB := aM (Below.refl w.heap.size w)
 have H : ((bodkinref01_size.f a0).bind fun t279 => (if t279 = 1 then (some (strOfNums (([(a0) % 256] : List Int)))) else (if 0 ≤ t279 then (if (t279 : Int).toNat ≤ 281474976710656 then (bodkinref01_encoding.l0 k a0 t279 (List.replicate (t279 : Int).toNat 0) (wrap64 (t279 - 1))) else (none)) else (none)))) = some r := h
 clear h
 replace H := Option.bind_eq_some_iff.mp H
 obtain ⟨t279, A20, H⟩ := H
 replace H : (if t279 = 1 then (some (strOfNums (([(a0) % 256] : List Int)))) else (if 0 ≤ t279 then (if (t279 : Int).toNat ≤ 281474976710656 then (bodkinref01_encoding.l0 k a0 t279 (List.replicate (t279 : Int).toNat 0) (wrap64 (t279 - 1))) else (none)) else (none))) = some r := H
 have A2 := aM A20
 clear A20
 by_cases c3 : t279 = 1
 ·rw [if_pos c3] at H
  have c3b0 : (t279 == 1) = true := beq_iff_eq.mpr c3
  have c3b1 : (t279 != 1) = false := bne_eq_false_iff_eq.mpr c3
  clear c3
  obtain ⟨y280, hy280⟩ : ∃ y_ : List Int, y_ = (([(a0) % 256] : List Int)) := ⟨_, rfl⟩
  replace H : (some (strOfNums y280)) = some r := by first | (rw [hy280]; with_reducible exact H) | (have H2_ := (Option.bind_some _ _).symm.trans H; rw [hy280]; with_reducible exact H2_) | (have H2_ := (Option.bind_some _ _).symm.trans H; with_reducible exact H2_) | with_reducible exact H | (rw [hy280]; exact H) | exact H
  have Ny280 := aM hy280
  clear hy280
  obtain rfl := Option.some.inj H
  go_enter Try.func60, Try.ntmps60
  go_wp2_with (first | ((with_reducible refine gate_callee (f := 61) rfl ?_); refine goesL_ (some 8) rfl rfl Try.func61 (by kernel_rfl) rfl #[.int .i32 a0] rfl (by (try simp only [List.map_toArray, List.map_cons, List.map_nil]); first | done | rfl) ?_; (with_reducible refine (bodkinref01_size.calls a0 t279 _ A2.1).mono ?_); rintro e w' ⟨rfl, ⟨nd, rfl⟩⟩; refine ⟨_, rfl, ?_⟩) | ((with_reducible refine gate_dst (N := 13) rfl ?_); refine Kd.R_lit (Kd.int .u8) _ 5 ?hg (N := 13) ?hd (xs := ([(a0) % 256] : List Int)) (inner := [.int .u8 ((a0) % 256)]) (ok := fun _ => True) (okp := fun _ => True) ?hr ?hp (fun _ hk => hk) trivial (Below.refl _ _) (Nat.le_refl _) (by simp) ?_; (case hd => rfl); (case hg => rfl); (case hr => first | (go_simp; done) | (go_simp; rfl)); (case hp => exact (Reps.one (show Kd.M (Kd.int .u8) _ _ _ ((a0) % 256) [.int .u8 ((a0) % 256)] from rfl) (Reps.none _ _))); intro v281 w4 ho5 hb hg_ hnew_; clear hg_ hnew_; (first | rw [← Ny280.1] at ho5 | (simp only [Int.reduceToNat] at ho5; rw [← Ny280.1] at ho5)); have HO282 := aM (Kd.R_lower ho5 (bwZ (by apply_rules (transparency := .reducible) [HB.1, bwA, bwN, bwD]))); replace HB := aM (bwP (by apply_rules (transparency := .reducible) [HB.1, bwA, bwN, bwD]) hb); clear hb ho5; have hcv6 := own_string (P := Try.prog) Try.underlying45 Try.underlying5 Try.underlying9 (Kd.own_of_R HO282.1)))
  go_ret
  exact ⟨rfl, by apply_rules (transparency := .reducible) [HB.1, bwA, bwN, bwD]⟩
 rw [if_neg c3] at H
 have c3b0 : (t279 == 1) = false := beq_eq_false_iff_ne.mpr c3
 have c3b1 : (t279 != 1) = true := bne_iff_ne.mpr c3
 by_cases c7 : 0 ≤ t279
 ·rw [if_pos c7] at H
  have c7b0 := eq_true c7
  have c7b1 : decide (0 ≤ t279) = true := decide_eq_true c7
  clear c7
  by_cases c8 : (t279 : Int).toNat ≤ 281474976710656
  ·rw [if_pos c8] at H
   have c8b0 := eq_true c8
   have c8b1 : decide ((t279 : Int).toNat ≤ 281474976710656) = true := decide_eq_true c8
   clear c8
   obtain ⟨y283, hy283⟩ : ∃ y_ : List Int, y_ = (List.replicate (t279 : Int).toNat 0) := ⟨_, rfl⟩
   replace H : (bodkinref01_encoding.l0 k a0 t279 y283 (wrap64 (t279 - 1))) = some r := by first | (rw [hy283]; with_reducible exact H) | (have H2_ := (Option.bind_some _ _).symm.trans H; rw [hy283]; with_reducible exact H2_) | (have H2_ := (Option.bind_some _ _).symm.trans H; with_reducible exact H2_) | with_reducible exact H | (rw [hy283]; exact H) | exact H
   have Ny283 := aM hy283
   clear hy283
   have H' := aM H
   clear H
   go_enter Try.func60, Try.ntmps60
   go_wp2_with (first | ((with_reducible refine gate_callee (f := 61) rfl ?_); refine goesL_ (some 8) rfl rfl Try.func61 (by kernel_rfl) rfl #[.int .i32 a0] rfl (by (try simp only [List.map_toArray, List.map_cons, List.map_nil]); first | done | rfl) ?_; (with_reducible refine (bodkinref01_size.calls a0 t279 _ A2.1).mono ?_); rintro e w' ⟨rfl, ⟨nd, rfl⟩⟩; refine ⟨_, rfl, ?_⟩) | ((with_reducible refine gate_dst (N := 16) rfl ?_); refine Kd.R_make (Kd.int .u8) _ 5 rfl (N := 16) rfl 45 _ _ rfl t279 rfl rfl Try.underlying45 (.int .u8 0) 1 info5 rfl (by decide) (by omega) 0 (ok := fun _ => True) (okp := fun _ => True) rfl (fun _ hk => hk) trivial (of_decide_eq_true (by first | (with_reducible assumption) | assumption)) (Nat.le_trans (Nat.mul_le_mul_right _ (of_decide_eq_true (by first | (with_reducible assumption) | assumption) : t279.toNat ≤ 281474976710656)) (by omega)) (Below.refl _ _) (Nat.le_refl _) ?_; intro v284 w9 ho10 hb hg_ hnew_; clear hg_ hnew_; (first | rw [← Ny283.1] at ho10 | (simp only [Int.reduceToNat] at ho10; rw [← Ny283.1] at ho10)); have HO285 := aM (Kd.R_lower ho10 (bwZ (by apply_rules (transparency := .reducible) [HB.1, bwA, bwN, bwD]))); replace HB := aM (bwP (by apply_rules (transparency := .reducible) [HB.1, bwA, bwN, bwD]) hb); clear hb ho10))
   go_loopg [0, 5] k (fun kq v0 v5 w' => ∃ (x0_1 : Int) (x4_1 : List Int) (x5_1 : Int), v0 = .int .i32 x0_1 ∧ v5 = .int .i64 x5_1 ∧ Aside0 (bodkinref01_encoding.l0 kq x0_1 t279 x4_1 x5_1 = some r) ∧ Aside0 (kq ≤ k) ∧ Aside0 (Kd.R (Kd.int .u8) 5 w' w.heap.size (fun _ => True) v284 x4_1) ∧ Aside0 (Below w.heap.size w w'))
   case atStart => exact ⟨(a0), (y283), (wrap64 (t279 - 1)), rfl, rfl, H', ⟨Nat.le_refl _⟩, ⟨by (with_reducible repeat first | apply Kd.R_alloc | apply Kd.R_drewN | apply Kd.R_drew); exact HO285.1⟩, ⟨by apply_rules (transparency := .reducible) [HB.1, bwA, bwN, bwD]⟩⟩
   clear H'
   try clear c3
   try clear c3b0
   try clear c3b1
   try clear c7
   try clear c7b0
   try clear c7b1
   try clear c8
   try clear c8b0
   try clear c8b1
   obtain ⟨x0_1, x4_1, x5_1, rfl, rfl, HA, HK1, HO_4, HB⟩ := hrel
   obtain _ | k1 := gk
   ·exact absurd HA.1 (by simp [bodkinref01_encoding.l0])
   have H := HA.1
   clear HA
   simp only [bodkinref01_encoding.l0] at H
   by_cases c11 : x5_1 > 0
   ·rw [if_pos c11] at H
    have c11b0 : decide (0 < x5_1) = true := decide_eq_true c11
    clear c11
    by_cases c12 : 0 ≤ x5_1
    ·rw [if_pos c12] at H
     have c12b0 : decide (0 ≤ x5_1) = true := decide_eq_true c12
     clear c12
     by_cases c13 : x5_1 < (x4_1.length : Int)
     ·rw [if_pos c13] at H
      have c13b0 : decide (x5_1 < (x4_1.length : Int)) = true := decide_eq_true c13
      clear c13
      obtain ⟨y286, hy286⟩ : ∃ y_ : List Int, y_ = (x4_1.set (x5_1 : Int).toNat ((wrap32 (128 + (Int.tmod x0_1 64))) % 256)) := ⟨_, rfl⟩
      replace H : (bodkinref01_encoding.l0 k1 (wrap32 (Int.tdiv x0_1 64)) t279 y286 (wrap64 (x5_1 - 1))) = some r := by first | (rw [hy286]; with_reducible exact H) | (have H2_ := (Option.bind_some _ _).symm.trans H; rw [hy286]; with_reducible exact H2_) | (have H2_ := (Option.bind_some _ _).symm.trans H; with_reducible exact H2_) | with_reducible exact H | (rw [hy286]; exact H) | exact H
      have Ny286 := aM hy286
      clear hy286
      have H' := aM H
      clear H
      have p14 : 0 ≤ (x5_1 : Int) := of_decide_eq_true (by first | (with_reducible assumption) | assumption)
      have q14 : (x5_1 : Int) < ((x4_1.length : Int) : Int) := of_decide_eq_true (by first | (with_reducible assumption) | assumption)
      obtain ⟨go14, co14, eo14, gb14, gl14, cl14, HG14⟩ := Kd.R_form HO_4.out (by omega)
      (first | cases eo14 | (injection eo14 with ea_ en_ ec_; (first | subst ea_ | (injection ea_ with ea_; subst ea_)); subst ec_; clear en_))
      have GB14 := aM gb14
      have GG14 := aM HG14
      clear gb14 gl14 HG14
      obtain ⟨hx14_0, hf14_0⟩ := Kd.R_celln 0 HO_4.out (x5_1 : Int) p14 q14
      replace p14 := eq_true p14
      replace q14 := eq_true q14
      have HP15 := Kd.R_putg HO_4.out (x5_1 : Int) ((wrap32 (128 + (Int.tmod x0_1 64))) % 256)
      go_wp2_with (first | ((with_reducible refine gate_store (t := 5) (p := 29) rfl ?_); refine store_event (t := 5) (p := 29) (v := ?vo_w16) (w1 := (wr.setCell ⟨go14, (x5_1 : Int).toNat, none⟩ (.int .u8 ((wrap32 (128 + (Int.tmod x0_1 64))) % 256)))) ?hg ?ho ?hn ?hr ?_; (case ho => rfl); (case hg => rfl); (case hn => rfl); (case hr => first | (go_simp; done) | (go_simp; rfl)); intro w16 hw; have hg : wr.grownBy w16 (some go14) := (by rw [hw]; exact HP15.2); have hp_ : Kd.R (Kd.int .u8) 5 w16 w.heap.size (fun _ => True) (.slice (some ⟨go14, 0, none⟩) x4_1.length co14) y286 := (by rw [hw, Ny286.1]; exact HP15.1); clear HP15; replace HO_4 := aM (hp_); replace HB := aM ((by rw [hw]; exact bwS (HB.1) GB14.out : Below w.heap.size w w16)); clear hg hw hp_))
      go_roundg k1
      case measure => have := HK1.out; omega
      case rel => exact ⟨(wrap32 (Int.tdiv x0_1 64)), (y286), (wrap64 (x5_1 - 1)), rfl, rfl, H', ⟨by have := HK1.out; omega⟩, ⟨by (with_reducible repeat first | apply Kd.R_alloc | apply Kd.R_drewN | apply Kd.R_drew); exact HO_4.out⟩, ⟨by apply_rules (transparency := .reducible) [HB.1, bwA, bwN, bwD]⟩⟩
     rw [if_neg c13] at H
     exact absurd H (by simp)
    rw [if_neg c12] at H
    exact absurd H (by simp)
   rw [if_neg c11] at H
   have c11b0 : decide (0 < x5_1) = false := decide_eq_false c11
   clear c11
   obtain ⟨y287, hy287⟩ : ∃ y_ : List Int, y_ = (([0, 0, 192, 224, 240] : List Int)) := ⟨_, rfl⟩
   replace H : (if 0 ≤ t279 then (if t279 < (y287.length : Int) then (if 0 < (x4_1.length : Int) then (some (strOfNums (x4_1.set (0 : Int).toNat ((wrap64 ((rd y287 t279) + (wrap64 (x0_1)))) % 256)))) else (none)) else (none)) else (none)) = some r := by first | (rw [hy287]; with_reducible exact H) | (have H2_ := (Option.bind_some _ _).symm.trans H; rw [hy287]; with_reducible exact H2_) | (have H2_ := (Option.bind_some _ _).symm.trans H; with_reducible exact H2_) | with_reducible exact H | (rw [hy287]; exact H) | exact H
   have Ny287 := aM hy287
   clear hy287
   by_cases c17 : 0 ≤ t279
   ·rw [if_pos c17] at H
    have c17b0 : decide (0 ≤ t279) = true := decide_eq_true c17
    clear c17
    by_cases c18 : t279 < (y287.length : Int)
    ·rw [if_pos c18] at H
     have c18b0 : decide (t279 < (y287.length : Int)) = true := decide_eq_true c18
     clear c18
     by_cases c19 : 0 < (x4_1.length : Int)
     ·rw [if_pos c19] at H
      have c19b0 : decide (0 < (x4_1.length : Int)) = true := decide_eq_true c19
      have c19b1 : decide (0 < x4_1.length) = true := decide_eq_true (by omega)
      clear c19
      obtain ⟨y291, hy291⟩ : ∃ y_ : List Int, y_ = (x4_1.set (0 : Int).toNat ((wrap64 ((rd y287 t279) + (wrap64 (x0_1)))) % 256)) := ⟨_, rfl⟩
      replace H : (some (strOfNums y291)) = some r := by first | (rw [hy291]; with_reducible exact H) | (have H2_ := (Option.bind_some _ _).symm.trans H; rw [hy291]; with_reducible exact H2_) | (have H2_ := (Option.bind_some _ _).symm.trans H; with_reducible exact H2_) | with_reducible exact H | (rw [hy291]; exact H) | exact H
      have Ny291 := aM hy291
      clear hy291
      obtain rfl := Option.some.inj H
      go_wp2_with (first | ((with_reducible refine gate_dst (N := 32) rfl ?_); refine Kd.R_lit (Kd.int .i64) _ 3 ?hg (N := 32) ?hd (xs := ([0, 0, 192, 224, 240] : List Int)) (inner := [.int .i64 0, .int .i64 0, .int .i64 192, .int .i64 224, .int .i64 240]) (ok := fun _ => True) (okp := fun _ => True) ?hr ?hp (fun _ hk => hk) trivial (Below.refl _ _) (Nat.le_refl _) (by simp) ?_; (case hd => rfl); (case hg => rfl); (case hr => first | (go_simp; done) | (go_simp; rfl)); (case hp => exact (Reps.one (show Kd.M (Kd.int .i64) _ _ _ 0 [.int .i64 0] from rfl) (Reps.one (show Kd.M (Kd.int .i64) _ _ _ 0 [.int .i64 0] from rfl) (Reps.one (show Kd.M (Kd.int .i64) _ _ _ 192 [.int .i64 192] from rfl) (Reps.one (show Kd.M (Kd.int .i64) _ _ _ 224 [.int .i64 224] from rfl) (Reps.one (show Kd.M (Kd.int .i64) _ _ _ 240 [.int .i64 240] from rfl) (Reps.none _ _))))))); intro v288 w21 ho22 hb hg_ hnew_; clear hg_ hnew_; (first | rw [← Ny287.1] at ho22 | (simp only [Int.reduceToNat] at ho22; rw [← Ny287.1] at ho22)); replace HO_4 := aM (Kd.R_below (by (with_reducible repeat first | apply Kd.R_alloc | apply Kd.R_drewN | apply Kd.R_drew); exact HO_4.out) hb); have HO289 := aM (Kd.R_lower ho22 (bwZ (by apply_rules (transparency := .reducible) [HB.1, bwA, bwN, bwD]))); replace HB := aM (bwP (by apply_rules (transparency := .reducible) [HB.1, bwA, bwN, bwD]) hb); clear hb ho22; obtain ⟨Ao23, co23, eo23⟩ := Kd.R_slice HO289.1; subst eo23; have p290 : 0 ≤ (t279 : Int) := of_decide_eq_true (by first | (with_reducible assumption) | assumption); have q290 : t279 < (y287.length : Int) := of_decide_eq_true (by first | (with_reducible assumption) | assumption); obtain ⟨ad290, e290, hx290_0⟩ := Kd.at_int (Kd.R_reads' HO289.1).2.2 t279 p290 q290; cases e290; replace p290 := eq_true p290; replace q290 := eq_true q290; have p20 : 0 ≤ (0 : Int) := (by omega); have q20 : (0 : Int) < ((x4_1.length : Int) : Int) := of_decide_eq_true (by first | (with_reducible assumption) | assumption); have qi20 : (0 < x4_1.length) = True := eq_true (by omega); obtain ⟨go20, co20, eo20, gb20, gl20, cl20, HG20⟩ := Kd.R_form HO_4.out (by omega); (first | cases eo20 | (injection eo20 with ea_ en_ ec_; (first | subst ea_ | (injection ea_ with ea_; subst ea_)); subst ec_; clear en_)); have GB20 := aM gb20; have GG20 := aM HG20; clear gb20 gl20 HG20; obtain ⟨hx20_0, hf20_0⟩ := Kd.R_celln 0 HO_4.out (0 : Int) p20 q20; (try rw [show ((0 : Int)).toNat = 0 from rfl] at hx20_0); (try simp only [Nat.reduceMul, Nat.zero_mul, Nat.zero_add, Nat.reduceAdd] at hx20_0); (try rw [show ((0 : Int)).toNat = 0 from rfl] at hf20_0); (try simp only [Nat.reduceMul, Nat.zero_mul, Nat.zero_add, Nat.reduceAdd] at hf20_0); replace p20 := eq_true p20; replace q20 := eq_true q20; obtain ⟨hy24_, hz24_⟩ := Kd.R_celln 0 HO_4.out (0 : Int) (by omega) (of_decide_eq_true (by first | (with_reducible assumption) | assumption)); (try simp only [Int.reduceToNat, Int.toNat_zero, Int.toNat_ofNat, Nat.reduceMul, Nat.zero_mul, Nat.zero_add] at hy24_ hz24_); (try rw [show ((0 : Int)).toNat = 0 from rfl] at hy24_); (try rw [show ((0 : Int)).toNat = 0 from rfl] at hz24_); have HP24 := Kd.R_putg HO_4.out (0 : Int) ((wrap64 ((rd y287 t279) + (wrap64 (x0_1)))) % 256)) | ((with_reducible refine gate_store (t := 5) (p := 42) rfl ?_); refine store_event (t := 5) (p := 42) (v := ?vo_w25) (w1 := (w21.setCell ⟨go20, (0 : Int).toNat, none⟩ (.int .u8 ((wrap64 ((rd y287 t279) + (wrap64 (x0_1)))) % 256)))) ?hg ?ho ?hn ?hr ?_; (case ho => rfl); (case hg => rfl); (case hn => rfl); (case hr => first | (go_simp; done) | (go_simp; rfl)); intro w25 hw; have hg : w21.grownBy w25 (some go20) := (by rw [hw]; exact HP24.2); have hp_ : Kd.R (Kd.int .u8) 5 w25 w.heap.size (fun _ => True) (.slice (some ⟨go20, 0, none⟩) x4_1.length co20) y291 := (by rw [hw, Ny291.1]; exact HP24.1); clear HP24; replace HO289 := aM (Kd.R_over' (v := (.slice (some ⟨go20, 0, none⟩) x4_1.length co20)) (by (with_reducible repeat first | apply Kd.R_alloc | apply Kd.R_drewN | apply Kd.R_drew); exact HO289.1) (Kd.R_typed HO_4.out) (by decide) hg); replace HO_4 := aM (hp_); replace HB := aM ((by rw [hw]; exact bwS (HB.1) GB20.out : Below w.heap.size w w25)); clear hg hw hp_; have hcv26 := own_string (P := Try.prog) Try.underlying45 Try.underlying5 Try.underlying9 (Kd.own_of_R HO_4.out)))
      go_ret
      exact ⟨rfl, by apply_rules (transparency := .reducible) [HB.1, bwA, bwN, bwD]⟩
     rw [if_neg c19] at H
     exact absurd H (by simp)
    rw [if_neg c18] at H
    exact absurd H (by simp)
   rw [if_neg c17] at H
   exact absurd H (by simp)
  rw [if_neg c8] at H
  exact absurd H (by simp)
 rw [if_neg c7] at H
 exact absurd H (by simp)

/-! ### bodkinref01_Encode: function 57 -/
def bodkinref01_Encode.l0 : Nat → List Int → List Int → Int → Option (ByteArray)
  | 0, _, _, _ => none
  | k + 1, x0, x3, x4 => if x4 < (x0.length : Int) then (if 0 ≤ x4 then ((bodkinref01_scalar.f (rd x0 x4)).bind fun t293 => (if t293 = true then ((bodkinref01_encoding.f k (rd x0 x4)).bind fun t295 => (if x3.length + t295.size < 140737488355328 then (bodkinref01_Encode.l0 k x0 (x3 ++ bytesOf t295) (wrap64 (x4 + 1))) else (none))) else (bodkinref01_Encode.l0 k x0 x3 (wrap64 (x4 + 1))))) else (none)) else (some (strOfNums x3))
def bodkinref01_Encode.f (k : Nat) (l0 : List Int) : Option (ByteArray) := bodkinref01_Encode.l0 k l0 ([] : List Int) 0
theorem bodkinref01_Encode.mono_l : ∀ k, (∀ y0 y1 y2, LeO (bodkinref01_Encode.l0 k y0 y1 y2) (bodkinref01_Encode.l0 (k + 1) y0 y1 y2))
  | 0 => fun _ _ _ r h => by simp [bodkinref01_Encode.l0] at h
  | k + 1 => by
    have ih0 := bodkinref01_Encode.mono_l k
    · intro y0 y1 y2
      unfold bodkinref01_Encode.l0
      repeat' first
      | (with_reducible exact ih0 _ _ _)
      | (with_reducible exact bodkinref01_encoding.mono _ _)
      | (with_reducible exact LeO.refl _)
      | (with_reducible exact LeO.none _)
      | (with_reducible refine LeO.ite ?_ ?_)
      | (with_reducible refine LeO.bind ?_ (fun _ => ?_))
      | exact ih0 _ _ _
      | exact bodkinref01_encoding.mono _ _
      | exact LeO.none _
      | refine LeO.ite ?_ ?_
      | refine LeO.bind ?_ (fun _ => ?_)
theorem bodkinref01_Encode.mono : ∀ a0 k, LeO (bodkinref01_Encode.f k a0) (bodkinref01_Encode.f (k + 1) a0) := by
 intro a0 k
 have ih0 := bodkinref01_Encode.mono_l k
 unfold bodkinref01_Encode.f
 repeat' first
   | (with_reducible exact ih0 _ _ _)
   | (with_reducible exact bodkinref01_encoding.mono _ _)
   | (with_reducible exact LeO.refl _)
   | (with_reducible exact LeO.none _)
   | (with_reducible refine LeO.ite ?_ ?_)
   | (with_reducible refine LeO.bind ?_ (fun _ => ?_))
   | exact ih0 _ _ _
   | exact bodkinref01_encoding.mono _ _
   | exact LeO.none _
   | refine LeO.ite ?_ ?_
   | refine LeO.bind ?_ (fun _ => ?_)
set_option maxHeartbeats 8000000 in
set_option maxRecDepth 100000 in
theorem bodkinref01_Encode.calls (k : Nat) (A0 : Option Addr) (c0 : Nat) (l0 : List Int) (r : ByteArray) (w : World) (hr0 : Kd.C (Kd.int .i32) w A0 l0.length l0) (hc0 : l0.length ≤ c0) (h : bodkinref01_Encode.f k l0 = some r) :
    Calls Try.prog 57 #[.slice A0 l0.length c0] w fun e w' => e = .returned (.string r) ∧ Below w.heap.size w w' := by
 have HR0 := aM hr0
 have HC0 := aM hc0
 clear hr0 hc0
 have HB := aM (Below.refl w.heap.size w)
 have H : (bodkinref01_Encode.l0 k l0 ([] : List Int) 0) = some r := h
 clear h
 have H' := aM H
 clear H
 go_enter Try.func57, Try.ntmps57
 go_wp2
 go_loopg [3, 4] k (fun kq v3 v4 w' => ∃ (x3_1 : List Int) (x4_1 : Int), v4 = .int .i64 x4_1 ∧ Aside0 (bodkinref01_Encode.l0 kq l0 x3_1 x4_1 = some r) ∧ Aside0 (kq ≤ k) ∧ Aside0 (Kd.R (Kd.int .u8) 5 w' w.heap.size (fun _ => True) v3 x3_1) ∧ Aside0 (Below w.heap.size w w'))
 case atStart => exact ⟨(([] : List Int)), (0), rfl, H', ⟨Nat.le_refl _⟩, ⟨by first | exact Kd.R_nil _ _ _ _ _ | exact Kd.N_nil _ _ _ _ _ | exact Kd.V_nil _ _ _ _ _ | exact Kd.Q_nil _ _ _ _ _ | exact Kd.S_nil _ _ _ _ _⟩, ⟨by apply_rules (transparency := .reducible) [HB.1, bwA, bwN, bwD]⟩⟩
 clear H'
 obtain ⟨x3_1, x4_1, rfl, HA, HK1, HO_3, HB⟩ := hrel
 obtain _ | k1 := gk
 ·exact absurd HA.1 (by simp [bodkinref01_Encode.l0])
 have H := HA.1
 clear HA
 simp only [bodkinref01_Encode.l0] at H
 by_cases c2 : x4_1 < (l0.length : Int)
 ·rw [if_pos c2] at H
  have c2b0 : decide (x4_1 < (l0.length : Int)) = true := decide_eq_true c2
  clear c2
  by_cases c3 : 0 ≤ x4_1
  ·rw [if_pos c3] at H
   have c3b0 : decide (0 ≤ x4_1) = true := decide_eq_true c3
   clear c3
   replace H := Option.bind_eq_some_iff.mp H
   obtain ⟨t293, A40, H⟩ := H
   replace H : (if t293 = true then ((bodkinref01_encoding.f k1 (rd l0 x4_1)).bind fun t295 => (if x3_1.length + t295.size < 140737488355328 then (bodkinref01_Encode.l0 k1 l0 (x3_1 ++ bytesOf t295) (wrap64 (x4_1 + 1))) else (none))) else (bodkinref01_Encode.l0 k1 l0 x3_1 (wrap64 (x4_1 + 1)))) = some r := H
   have A4 := aM A40
   clear A40
   by_cases c5 : t293 = true
   ·subst c5
    replace H : ((bodkinref01_encoding.f k1 (rd l0 x4_1)).bind fun t295 => (if x3_1.length + t295.size < 140737488355328 then (bodkinref01_Encode.l0 k1 l0 (x3_1 ++ bytesOf t295) (wrap64 (x4_1 + 1))) else (none))) = some r := by rw [if_pos rfl] at H; exact H
    replace H := Option.bind_eq_some_iff.mp H
    obtain ⟨t295, A60, H⟩ := H
    replace H : (if x3_1.length + t295.size < 140737488355328 then (bodkinref01_Encode.l0 k1 l0 (x3_1 ++ bytesOf t295) (wrap64 (x4_1 + 1))) else (none)) = some r := H
    have A6 := aM A60
    clear A60
    by_cases c7 : x3_1.length + t295.size < 140737488355328
    ·rw [if_pos c7] at H
     have LMc7 := aM c7
     clear c7
     obtain ⟨y296, hy296⟩ : ∃ y_ : List Int, y_ = (x3_1 ++ bytesOf t295) := ⟨_, rfl⟩
     replace H : (bodkinref01_Encode.l0 k1 l0 y296 (wrap64 (x4_1 + 1))) = some r := by first | (rw [hy296]; with_reducible exact H) | (have H2_ := (Option.bind_some _ _).symm.trans H; rw [hy296]; with_reducible exact H2_) | (have H2_ := (Option.bind_some _ _).symm.trans H; with_reducible exact H2_) | with_reducible exact H | (rw [hy296]; exact H) | exact H
     have Ny296 := aM hy296
     clear hy296
     have H' := aM H
     clear H
     have p292 : 0 ≤ (x4_1 : Int) := of_decide_eq_true (by first | (with_reducible assumption) | assumption)
     have q292 : x4_1 < (l0.length : Int) := of_decide_eq_true (by first | (with_reducible assumption) | assumption)
     obtain ⟨ad292, e292, hx292_0⟩ := Kd.at_int HR0.out x4_1 p292 q292
     cases e292
     replace hx292_0 := (HB.1.cell (World.block_lt_of_cell? w _ hx292_0)).trans hx292_0
     replace p292 := eq_true p292
     replace q292 := eq_true q292
     go_wp2_with (first | ((with_reducible refine gate_callee (f := 59) rfl ?_); refine goesL_ (some 16) rfl rfl Try.func59 (by kernel_rfl) rfl #[.int .i32 (rd l0 x4_1)] rfl (by (try simp only [List.map_toArray, List.map_cons, List.map_nil]); first | done | rfl) ?_; (with_reducible refine (bodkinref01_scalar.calls (rd l0 x4_1) true _ A4.1).mono ?_); rintro e w' ⟨rfl, ⟨nd, rfl⟩⟩; refine ⟨_, rfl, ?_⟩; have p294 : 0 ≤ (x4_1 : Int) := of_decide_eq_true (by first | (with_reducible assumption) | assumption); have q294 : x4_1 < (l0.length : Int) := of_decide_eq_true (by first | (with_reducible assumption) | assumption); obtain ⟨ad294, e294, hx294_0⟩ := Kd.at_int HR0.out x4_1 p294 q294; obtain rfl : ad292 = ad294 := (by injection e294); replace hx294_0 := (HB.1.cell (World.block_lt_of_cell? w _ hx294_0)).trans hx294_0; replace p294 := eq_true p294; replace q294 := eq_true q294) | ((with_reducible refine gate_callee (f := 60) rfl ?_); refine goesL_ (some 21) rfl rfl Try.func60 (by kernel_rfl) rfl #[.int .i32 (rd l0 x4_1)] rfl (by (try simp only [List.map_toArray, List.map_cons, List.map_nil]); first | done | rfl) ?_; (with_reducible refine (bodkinref01_encoding.calls k1 (rd l0 x4_1) t295 _ A6.1).mono ?_); rintro e w8 ⟨rfl, hb⟩; refine ⟨_, rfl, ?_⟩; replace HO_3 := aM (Kd.R_below (by (with_reducible repeat first | apply Kd.R_alloc | apply Kd.R_drewN | apply Kd.R_drew); exact HO_3.out) hb); replace HB := aM (bwP (by apply_rules (transparency := .reducible) [HB.1, bwA, bwN, bwD]) hb); (try clear hb); (try clear hb2); (try clear hk); (try clear hi)) | (at_builtin; refine print_append_str (w0 := w) w.heap.size rfl (.tmp 22) _ 45 9 5 rfl Try.underlying45 Try.underlying9 info5 u3 x3_1 t295 rfl rfl ?aO ?aB ?aS ?aL ?_; (case aB => exact (by apply_rules (transparency := .reducible) [HB.1, bwA, bwN, bwD])); (case aO => exact (Kd.own_of_R (by (with_reducible repeat first | apply Kd.R_alloc | apply Kd.R_drewN | apply Kd.R_drew); exact HO_3.out))); (case aS => exact (bwZ (by apply_rules (transparency := .reducible) [HB.1, bwA, bwN, bwD]))); (case aL => have := LMc7.out; omega); intro v297 w9 ho0 hb hg; have ho := Kd.R_of_own (h1 := fun _ => rfl) (ok := fun _ => True) ho0 (fun _ _ => trivial); clear ho0; have hat := True.intro; rw [← Ny296.1] at ho; change Kd.R (Kd.int .u8) 5 w9 w.heap.size (fun _ => True) v297 y296 at ho; have n0_ := aM (hb); have n1_ := aM (ho); clear HB; clear HO_3; have HB := n0_; have HO298 := n1_; clear n0_ n1_; clear ho hb hg hat))
     go_roundg k1
     case measure => have := HK1.out; omega
     case rel => exact ⟨(y296), (wrap64 (x4_1 + 1)), rfl, H', ⟨by have := HK1.out; omega⟩, ⟨by (with_reducible repeat first | apply Kd.R_alloc | apply Kd.R_drewN | apply Kd.R_drew); exact HO298.1⟩, ⟨by apply_rules (transparency := .reducible) [HB.1, bwA, bwN, bwD]⟩⟩
    rw [if_neg c7] at H
    exact absurd H (by simp)
   replace c5 := Bool.eq_false_iff.mpr c5
   subst c5
   replace H : (bodkinref01_Encode.l0 k1 l0 x3_1 (wrap64 (x4_1 + 1))) = some r := by rw [if_neg (show ¬ (false = true) by decide)] at H; exact H
   have H' := aM H
   clear H
   have p292 : 0 ≤ (x4_1 : Int) := of_decide_eq_true (by first | (with_reducible assumption) | assumption)
   have q292 : x4_1 < (l0.length : Int) := of_decide_eq_true (by first | (with_reducible assumption) | assumption)
   obtain ⟨ad292, e292, hx292_0⟩ := Kd.at_int HR0.out x4_1 p292 q292
   cases e292
   replace hx292_0 := (HB.1.cell (World.block_lt_of_cell? w _ hx292_0)).trans hx292_0
   replace p292 := eq_true p292
   replace q292 := eq_true q292
   go_wp2_with (first | ((with_reducible refine gate_callee (f := 59) rfl ?_); refine goesL_ (some 16) rfl rfl Try.func59 (by kernel_rfl) rfl #[.int .i32 (rd l0 x4_1)] rfl (by (try simp only [List.map_toArray, List.map_cons, List.map_nil]); first | done | rfl) ?_; (with_reducible refine (bodkinref01_scalar.calls (rd l0 x4_1) false _ A4.1).mono ?_); rintro e w' ⟨rfl, ⟨nd, rfl⟩⟩; refine ⟨_, rfl, ?_⟩))
   go_roundg k1
   case measure => have := HK1.out; omega
   case rel => exact ⟨(x3_1), (wrap64 (x4_1 + 1)), rfl, H', ⟨by have := HK1.out; omega⟩, ⟨by (with_reducible repeat first | apply Kd.R_alloc | apply Kd.R_drewN | apply Kd.R_drew); exact HO_3.out⟩, ⟨by apply_rules (transparency := .reducible) [HB.1, bwA, bwN, bwD]⟩⟩
  rw [if_neg c3] at H
  exact absurd H (by simp)
 rw [if_neg c2] at H
 have c2b0 : decide (x4_1 < (l0.length : Int)) = false := decide_eq_false c2
 clear c2
 obtain rfl := Option.some.inj H
 have hcv10 := own_string (P := Try.prog) Try.underlying45 Try.underlying5 Try.underlying9 (Kd.own_of_R HO_3.out)
 go_wp2
 go_ret
 exact ⟨rfl, by apply_rules (transparency := .reducible) [HB.1, bwA, bwN, bwD]⟩

/-! ### bodkinref19_typed: function 51 -/
def bodkinref19_typed.f (k : Nat) (a0_0 : Int) (a0_1 : Int) (a0_2 : Bool) (a0_3 : Bool) (a0_4 : Bool) (a0_5 : ByteArray) : Option (ByteArray) := if a0_0 = 4 then (some a0_5) else ((bodkinref01_Encode.f k (([a0_1] : List Int))).bind fun t303 => (some t303))
theorem bodkinref19_typed.mono : ∀ a0 a1 a2 a3 a4 a5 k, LeO (bodkinref19_typed.f k a0 a1 a2 a3 a4 a5) (bodkinref19_typed.f (k + 1) a0 a1 a2 a3 a4 a5) := by
 intro a0 a1 a2 a3 a4 a5 k
 unfold bodkinref19_typed.f
 repeat' first
   | (with_reducible exact bodkinref01_Encode.mono _ _)
   | (with_reducible exact LeO.refl _)
   | (with_reducible exact LeO.none _)
   | (with_reducible refine LeO.ite ?_ ?_)
   | (with_reducible refine LeO.bind ?_ (fun _ => ?_))
   | exact bodkinref01_Encode.mono _ _
   | exact LeO.none _
   | refine LeO.ite ?_ ?_
   | refine LeO.bind ?_ (fun _ => ?_)
set_option maxHeartbeats 8000000 in
set_option maxRecDepth 100000 in
theorem bodkinref19_typed.calls (k : Nat) (a0_0 : Int) (a0_1 : Int) (a0_2 : Bool) (a0_3 : Bool) (a0_4 : Bool) (a0_5 : ByteArray) (r : ByteArray) (w : World) (h : bodkinref19_typed.f k a0_0 a0_1 a0_2 a0_3 a0_4 a0_5 = some r) :
    Calls Try.prog 51 #[.agg #[.int .i64 a0_0, .int .i32 a0_1, .bool a0_2, .bool a0_3, .bool a0_4, .string a0_5]] w fun e w' => e = .returned (.string r) ∧ Below w.heap.size w w' := by
 have hu25 := Try.underlying25
 have HB := aM (Below.refl w.heap.size w)
 have H : (if a0_0 = 4 then (some a0_5) else ((bodkinref01_Encode.f k (([a0_1] : List Int))).bind fun t303 => (some t303))) = some r := h
 clear h
 by_cases c2 : a0_0 = 4
 ·rw [if_pos c2] at H
  have c2b0 : (a0_0 == 4) = true := beq_iff_eq.mpr c2
  have c2b1 : (a0_0 != 4) = false := bne_eq_false_iff_eq.mpr c2
  clear c2
  obtain rfl := Option.some.inj H
  go_enter Try.func51, Try.ntmps51
  go_wp2_with (first | ((with_reducible refine gate_dst (N := 1) rfl ?_); refine box_event ?hg (N := 1) ?hd (cs := #[.int .i64 a0_0, .int .i32 a0_1, .bool a0_2, .bool a0_3, .bool a0_4, .string a0_5]) (t := 25) ?hr ?_; (case hd => rfl); (case hg => rfl); (case hr => first | (go_simp; done) | (go_simp; rfl)); intro gb299 hg w3 hbox hb; have BK299 := aM (hbox); have GW299 := aM ((by rw [hg]; exact (bwZ (by apply_rules (transparency := .reducible) [HB.1, bwA, bwN, bwD])) : w.heap.size ≤ gb299)); have GE299 := aM ((by rw [hg]; exact (bwZ (by apply_rules (transparency := .reducible) [HB.1, bwA, bwN, bwD])) : w.heap.size ≤ gb299)); replace HB := aM (bwP (by apply_rules (transparency := .reducible) [HB.1, bwA, bwN, bwD]) hb); clear hb hbox hg; obtain ⟨z4_0, z4_1, z4_2, z4_3, z4_4, z4_5, z4_6, z4_7, z4_8, z4_9, z4_10, z4_11⟩ := bx6 BK299.1))
  go_ret
  exact ⟨rfl, by apply_rules (transparency := .reducible) [HB.1, bwA, bwN, bwD, bwS, GE299.1]⟩
 rw [if_neg c2] at H
 have c2b0 : (a0_0 == 4) = false := beq_eq_false_iff_ne.mpr c2
 have c2b1 : (a0_0 != 4) = true := bne_iff_ne.mpr c2
 obtain ⟨y300, hy300⟩ : ∃ y_ : List Int, y_ = (([a0_1] : List Int)) := ⟨_, rfl⟩
 replace H : ((bodkinref01_Encode.f k y300).bind fun t303 => (some t303)) = some r := by first | (rw [hy300]; with_reducible exact H) | (have H2_ := (Option.bind_some _ _).symm.trans H; rw [hy300]; with_reducible exact H2_) | (have H2_ := (Option.bind_some _ _).symm.trans H; with_reducible exact H2_) | with_reducible exact H | (rw [hy300]; exact H) | exact H
 have Ny300 := aM hy300
 clear hy300
 replace H := Option.bind_eq_some_iff.mp H
 obtain ⟨t303, A50, H⟩ := H
 replace H : (some t303) = some r := H
 have A5 := aM A50
 clear A50
 obtain rfl := Option.some.inj H
 go_enter Try.func51, Try.ntmps51
 go_wp2_with (first | ((with_reducible refine gate_dst (N := 1) rfl ?_); refine box_event ?hg (N := 1) ?hd (cs := #[.int .i64 a0_0, .int .i32 a0_1, .bool a0_2, .bool a0_3, .bool a0_4, .string a0_5]) (t := 25) ?hr ?_; (case hd => rfl); (case hg => rfl); (case hr => first | (go_simp; done) | (go_simp; rfl)); intro gb299 hg w6 hbox hb; have BK299 := aM (hbox); have GW299 := aM ((by rw [hg]; exact (bwZ (by apply_rules (transparency := .reducible) [HB.1, bwA, bwN, bwD])) : w.heap.size ≤ gb299)); have GE299 := aM ((by rw [hg]; exact (bwZ (by apply_rules (transparency := .reducible) [HB.1, bwA, bwN, bwD])) : w.heap.size ≤ gb299)); replace HB := aM (bwP (by apply_rules (transparency := .reducible) [HB.1, bwA, bwN, bwD]) hb); clear hb hbox hg; obtain ⟨z7_0, z7_1, z7_2, z7_3, z7_4, z7_5, z7_6, z7_7, z7_8, z7_9, z7_10, z7_11⟩ := bx6 BK299.1) | ((with_reducible refine gate_dst (N := 10) rfl ?_); refine Kd.R_lit (Kd.int .i32) _ 21 ?hg (N := 10) ?hd (xs := ([a0_1] : List Int)) (inner := [.int .i32 a0_1]) (ok := fun _ => True) (okp := fun _ => True) ?hr ?hp (fun _ hk => hk) trivial (Below.refl _ _) (Nat.le_refl _) (by simp) ?_; (case hd => rfl); (case hg => rfl); (case hr => first | (go_simp; done) | (go_simp; rfl)); (case hp => exact (Reps.one (show Kd.M (Kd.int .i32) _ _ _ a0_1 [.int .i32 a0_1] from rfl) (Reps.none _ _))); intro v301 w8 ho9 hb hg_ hnew_; clear hg_ hnew_; (first | rw [← Ny300.1] at ho9 | (simp only [Int.reduceToNat] at ho9; rw [← Ny300.1] at ho9)); have HO302 := aM (Kd.R_lower ho9 (bwZ (by apply_rules (transparency := .reducible) [HB.1, bwA, bwN, bwD, bwS, GE299.1]))); replace BK299 := aM (bkB (g := gb299) (o := .cells #[.int .i64 a0_0, .int .i32 a0_1, .bool a0_2, .bool a0_3, .bool a0_4, .string a0_5] 25 (0, 0)) (by apply_rules (transparency := .reducible) [BK299.1, bkN, bkD, bkA]) hb); replace HB := aM (bwP (by apply_rules (transparency := .reducible) [HB.1, bwA, bwN, bwD, bwS, GE299.1]) hb); clear hb ho9; obtain ⟨Ao10, co10, eo10⟩ := Kd.R_slice HO302.1; subst eo10) | ((with_reducible refine gate_callee (f := 57) rfl ?_); refine goesL_ (some 11) rfl rfl Try.func57 (by kernel_rfl) rfl #[.slice Ao10 y300.length co10] rfl (by (try simp only [List.map_toArray, List.map_cons, List.map_nil]); first | done | rfl) ?_; (with_reducible refine (bodkinref01_Encode.calls k _ _ y300 t303 _ ?side1 ?side2 A5.1).mono ?_); (case side1 => repeat (first | exact (Kd.R_reads' HO302.1).2.2 | (with_reducible refine Kd.C_alloc ?_ _) | (with_reducible refine Kd.C_drewN ?_ _) | (with_reducible refine Kd.C_drew ?_))); (case side2 => exact (Kd.R_reads' HO302.1).2.1); rintro e w11 ⟨rfl, hb⟩; refine ⟨_, rfl, ?_⟩; replace HO302 := aM (Kd.R_below (by (with_reducible repeat first | apply Kd.R_alloc | apply Kd.R_drewN | apply Kd.R_drew); exact HO302.1) hb); replace BK299 := aM (bkB (g := gb299) (o := .cells #[.int .i64 a0_0, .int .i32 a0_1, .bool a0_2, .bool a0_3, .bool a0_4, .string a0_5] 25 (0, 0)) (by apply_rules (transparency := .reducible) [BK299.1, bkN, bkD, bkA]) hb); replace HB := aM (bwP (by apply_rules (transparency := .reducible) [HB.1, bwA, bwN, bwD, bwS, GE299.1]) hb); (try clear hb); (try clear hb2); (try clear hk); (try clear hi)))
 go_ret
 exact ⟨rfl, by apply_rules (transparency := .reducible) [HB.1, bwA, bwN, bwD, bwS, GE299.1]⟩

/-! ### bodkinref19_meta: function 52 -/
def bodkinref19_meta.l0 : Nat → Int → List Int → List Int → Int → Option (Int)
  | 0, _, _, _, _ => none
  | k + 1, x0, x3, x4, x5 => if x5 < (x3.length : Int) then (if 0 ≤ x5 then (if (rd x3 x5) = x0 then (if x5 < (x4.length : Int) then (some (rd x4 x5)) else (none)) else (bodkinref19_meta.l0 k x0 x3 x4 (wrap64 (x5 + 1)))) else (none)) else (some 40)
def bodkinref19_meta.f (k : Nat) (a0 : Int) : Option (Int) := bodkinref19_meta.l0 k a0 (([98, 102, 100, 60, 62, 119, 121, 116, 117, 108, 99, 112, 110] : List Int)) (([6, 7, 16, 12, 13, 21, 23, 25, 26, 27, 28, 34, 35] : List Int)) 0
theorem bodkinref19_meta.mono_l : ∀ k, (∀ y0 y1 y2 y3, LeO (bodkinref19_meta.l0 k y0 y1 y2 y3) (bodkinref19_meta.l0 (k + 1) y0 y1 y2 y3))
  | 0 => fun _ _ _ _ r h => by simp [bodkinref19_meta.l0] at h
  | k + 1 => by
    have ih0 := bodkinref19_meta.mono_l k
    · intro y0 y1 y2 y3
      unfold bodkinref19_meta.l0
      repeat' first
      | (with_reducible exact ih0 _ _ _ _)
      | (with_reducible exact LeO.refl _)
      | (with_reducible exact LeO.none _)
      | (with_reducible refine LeO.ite ?_ ?_)
      | (with_reducible refine LeO.bind ?_ (fun _ => ?_))
      | exact ih0 _ _ _ _
      | exact LeO.none _
      | refine LeO.ite ?_ ?_
      | refine LeO.bind ?_ (fun _ => ?_)
theorem bodkinref19_meta.mono : ∀ a0 k, LeO (bodkinref19_meta.f k a0) (bodkinref19_meta.f (k + 1) a0) := by
 intro a0 k
 have ih0 := bodkinref19_meta.mono_l k
 unfold bodkinref19_meta.f
 repeat' first
   | (with_reducible exact ih0 _ _ _ _)
   | (with_reducible exact LeO.refl _)
   | (with_reducible exact LeO.none _)
   | (with_reducible refine LeO.ite ?_ ?_)
   | (with_reducible refine LeO.bind ?_ (fun _ => ?_))
   | exact ih0 _ _ _ _
   | exact LeO.none _
   | refine LeO.ite ?_ ?_
   | refine LeO.bind ?_ (fun _ => ?_)
set_option maxHeartbeats 8000000 in
set_option maxRecDepth 100000 in
theorem bodkinref19_meta.calls (k : Nat) (a0 : Int) (r : Int) (w : World) (h : bodkinref19_meta.f k a0 = some r) :
    Calls Try.prog 52 #[.int .i32 a0] w fun e w' => e = .returned (.int .i64 r) ∧ Below w.heap.size w w' := by
 have HB := aM (Below.refl w.heap.size w)
 have H : (bodkinref19_meta.l0 k a0 (([98, 102, 100, 60, 62, 119, 121, 116, 117, 108, 99, 112, 110] : List Int)) (([6, 7, 16, 12, 13, 21, 23, 25, 26, 27, 28, 34, 35] : List Int)) 0) = some r := h
 clear h
 obtain ⟨y304, hy304⟩ : ∃ y_ : List Int, y_ = (([98, 102, 100, 60, 62, 119, 121, 116, 117, 108, 99, 112, 110] : List Int)) := ⟨_, rfl⟩
 replace H : (bodkinref19_meta.l0 k a0 y304 (([6, 7, 16, 12, 13, 21, 23, 25, 26, 27, 28, 34, 35] : List Int)) 0) = some r := by first | (rw [hy304]; with_reducible exact H) | (have H2_ := (Option.bind_some _ _).symm.trans H; rw [hy304]; with_reducible exact H2_) | (have H2_ := (Option.bind_some _ _).symm.trans H; with_reducible exact H2_) | with_reducible exact H | (rw [hy304]; exact H) | exact H
 have Ny304 := aM hy304
 clear hy304
 obtain ⟨y307, hy307⟩ : ∃ y_ : List Int, y_ = (([6, 7, 16, 12, 13, 21, 23, 25, 26, 27, 28, 34, 35] : List Int)) := ⟨_, rfl⟩
 replace H : (bodkinref19_meta.l0 k a0 y304 y307 0) = some r := by first | (rw [hy307]; with_reducible exact H) | (have H2_ := (Option.bind_some _ _).symm.trans H; rw [hy307]; with_reducible exact H2_) | (have H2_ := (Option.bind_some _ _).symm.trans H; with_reducible exact H2_) | with_reducible exact H | (rw [hy307]; exact H) | exact H
 have Ny307 := aM hy307
 clear hy307
 have H' := aM H
 clear H
 go_enter Try.func52, Try.ntmps52
 go_wp2_with (first | ((with_reducible refine gate_dst (N := 6) rfl ?_); refine Kd.R_lit (Kd.int .i32) _ 21 ?hg (N := 6) ?hd (xs := ([98, 102, 100, 60, 62, 119, 121, 116, 117, 108, 99, 112, 110] : List Int)) (inner := [.int .i32 98, .int .i32 102, .int .i32 100, .int .i32 60, .int .i32 62, .int .i32 119, .int .i32 121, .int .i32 116, .int .i32 117, .int .i32 108, .int .i32 99, .int .i32 112, .int .i32 110]) (ok := fun _ => True) (okp := fun _ => True) ?hr ?hp (fun _ hk => hk) trivial (Below.refl _ _) (Nat.le_refl _) (by simp) ?_; (case hd => rfl); (case hg => rfl); (case hr => first | (go_simp; done) | (go_simp; rfl)); (case hp => exact (Reps.one (show Kd.M (Kd.int .i32) _ _ _ 98 [.int .i32 98] from rfl) (Reps.one (show Kd.M (Kd.int .i32) _ _ _ 102 [.int .i32 102] from rfl) (Reps.one (show Kd.M (Kd.int .i32) _ _ _ 100 [.int .i32 100] from rfl) (Reps.one (show Kd.M (Kd.int .i32) _ _ _ 60 [.int .i32 60] from rfl) (Reps.one (show Kd.M (Kd.int .i32) _ _ _ 62 [.int .i32 62] from rfl) (Reps.one (show Kd.M (Kd.int .i32) _ _ _ 119 [.int .i32 119] from rfl) (Reps.one (show Kd.M (Kd.int .i32) _ _ _ 121 [.int .i32 121] from rfl) (Reps.one (show Kd.M (Kd.int .i32) _ _ _ 116 [.int .i32 116] from rfl) (Reps.one (show Kd.M (Kd.int .i32) _ _ _ 117 [.int .i32 117] from rfl) (Reps.one (show Kd.M (Kd.int .i32) _ _ _ 108 [.int .i32 108] from rfl) (Reps.one (show Kd.M (Kd.int .i32) _ _ _ 99 [.int .i32 99] from rfl) (Reps.one (show Kd.M (Kd.int .i32) _ _ _ 112 [.int .i32 112] from rfl) (Reps.one (show Kd.M (Kd.int .i32) _ _ _ 110 [.int .i32 110] from rfl) (Reps.none _ _))))))))))))))); intro v305 w2 ho3 hb hg_ hnew_; clear hg_ hnew_; (first | rw [← Ny304.1] at ho3 | (simp only [Int.reduceToNat] at ho3; rw [← Ny304.1] at ho3)); have HO306 := aM (Kd.R_lower ho3 (bwZ (by apply_rules (transparency := .reducible) [HB.1, bwA, bwN, bwD]))); replace HB := aM (bwP (by apply_rules (transparency := .reducible) [HB.1, bwA, bwN, bwD]) hb); clear hb ho3) | ((with_reducible refine gate_dst (N := 7) rfl ?_); refine Kd.R_lit (Kd.int .i64) _ 34 ?hg (N := 7) ?hd (xs := ([6, 7, 16, 12, 13, 21, 23, 25, 26, 27, 28, 34, 35] : List Int)) (inner := [.int .i64 6, .int .i64 7, .int .i64 16, .int .i64 12, .int .i64 13, .int .i64 21, .int .i64 23, .int .i64 25, .int .i64 26, .int .i64 27, .int .i64 28, .int .i64 34, .int .i64 35]) (ok := fun _ => True) (okp := fun _ => True) ?hr ?hp (fun _ hk => hk) trivial (Below.refl _ _) (Nat.le_refl _) (by simp) ?_; (case hd => rfl); (case hg => rfl); (case hr => first | (go_simp; done) | (go_simp; rfl)); (case hp => exact (Reps.one (show Kd.M (Kd.int .i64) _ _ _ 6 [.int .i64 6] from rfl) (Reps.one (show Kd.M (Kd.int .i64) _ _ _ 7 [.int .i64 7] from rfl) (Reps.one (show Kd.M (Kd.int .i64) _ _ _ 16 [.int .i64 16] from rfl) (Reps.one (show Kd.M (Kd.int .i64) _ _ _ 12 [.int .i64 12] from rfl) (Reps.one (show Kd.M (Kd.int .i64) _ _ _ 13 [.int .i64 13] from rfl) (Reps.one (show Kd.M (Kd.int .i64) _ _ _ 21 [.int .i64 21] from rfl) (Reps.one (show Kd.M (Kd.int .i64) _ _ _ 23 [.int .i64 23] from rfl) (Reps.one (show Kd.M (Kd.int .i64) _ _ _ 25 [.int .i64 25] from rfl) (Reps.one (show Kd.M (Kd.int .i64) _ _ _ 26 [.int .i64 26] from rfl) (Reps.one (show Kd.M (Kd.int .i64) _ _ _ 27 [.int .i64 27] from rfl) (Reps.one (show Kd.M (Kd.int .i64) _ _ _ 28 [.int .i64 28] from rfl) (Reps.one (show Kd.M (Kd.int .i64) _ _ _ 34 [.int .i64 34] from rfl) (Reps.one (show Kd.M (Kd.int .i64) _ _ _ 35 [.int .i64 35] from rfl) (Reps.none _ _))))))))))))))); intro v308 w4 ho5 hb hg_ hnew_; clear hg_ hnew_; (first | rw [← Ny307.1] at ho5 | (simp only [Int.reduceToNat] at ho5; rw [← Ny307.1] at ho5)); replace HO306 := aM (Kd.R_below (by (with_reducible repeat first | apply Kd.R_alloc | apply Kd.R_drewN | apply Kd.R_drew); exact HO306.1) hb); have HO309 := aM (Kd.R_lower ho5 (bwZ (by apply_rules (transparency := .reducible) [HB.1, bwA, bwN, bwD]))); replace HB := aM (bwP (by apply_rules (transparency := .reducible) [HB.1, bwA, bwN, bwD]) hb); clear hb ho5))
 go_loopg [5] k (fun kq v5 w' => ∃ (x5_1 : Int), v5 = .int .i64 x5_1 ∧ Aside0 (bodkinref19_meta.l0 kq a0 y304 y307 x5_1 = some r) ∧ Aside0 (kq ≤ k) ∧ Aside0 (Kd.R (Kd.int .i32) 21 w' w.heap.size (fun _ => True) v305 y304) ∧ Aside0 (Kd.R (Kd.int .i64) 34 w' w.heap.size (fun _ => True) v308 y307) ∧ Aside0 (Below w.heap.size w w'))
 case atStart => exact ⟨(0), rfl, H', ⟨Nat.le_refl _⟩, ⟨by (with_reducible repeat first | apply Kd.R_alloc | apply Kd.R_drewN | apply Kd.R_drew); exact HO306.1⟩, ⟨by (with_reducible repeat first | apply Kd.R_alloc | apply Kd.R_drewN | apply Kd.R_drew); exact HO309.1⟩, ⟨by apply_rules (transparency := .reducible) [HB.1, bwA, bwN, bwD]⟩⟩
 clear H'
 obtain ⟨x5_1, rfl, HA, HK1, HO_3, HO_4, HB⟩ := hrel
 obtain _ | k1 := gk
 ·exact absurd HA.1 (by simp [bodkinref19_meta.l0])
 have H := HA.1
 clear HA
 simp only [bodkinref19_meta.l0] at H
 by_cases c6 : x5_1 < (y304.length : Int)
 ·rw [if_pos c6] at H
  have c6b0 : decide (x5_1 < (y304.length : Int)) = true := decide_eq_true c6
  clear c6
  by_cases c7 : 0 ≤ x5_1
  ·rw [if_pos c7] at H
   have c7b0 : decide (0 ≤ x5_1) = true := decide_eq_true c7
   clear c7
   by_cases c8 : (rd y304 x5_1) = a0
   ·rw [if_pos c8] at H
    have c8b0 : ((rd y304 x5_1) == a0) = true := beq_iff_eq.mpr c8
    have c8b1 : ((rd y304 x5_1) != a0) = false := bne_eq_false_iff_eq.mpr c8
    clear c8
    by_cases c9 : x5_1 < (y307.length : Int)
    ·rw [if_pos c9] at H
     have c9b0 : decide (x5_1 < (y307.length : Int)) = true := decide_eq_true c9
     clear c9
     obtain rfl := Option.some.inj H
     obtain ⟨Ao10, co10, eo10⟩ := Kd.R_slice HO_3.out
     subst eo10
     have p310 : 0 ≤ (x5_1 : Int) := of_decide_eq_true (by first | (with_reducible assumption) | assumption)
     have q310 : x5_1 < (y304.length : Int) := of_decide_eq_true (by first | (with_reducible assumption) | assumption)
     obtain ⟨ad310, e310, hx310_0⟩ := Kd.at_int (Kd.R_reads' HO_3.out).2.2 x5_1 p310 q310
     cases e310
     replace p310 := eq_true p310
     replace q310 := eq_true q310
     obtain ⟨Ao11, co11, eo11⟩ := Kd.R_slice HO_4.out
     subst eo11
     have p311 : 0 ≤ (x5_1 : Int) := of_decide_eq_true (by first | (with_reducible assumption) | assumption)
     have q311 : x5_1 < (y307.length : Int) := of_decide_eq_true (by first | (with_reducible assumption) | assumption)
     obtain ⟨ad311, e311, hx311_0⟩ := Kd.at_int (Kd.R_reads' HO_4.out).2.2 x5_1 p311 q311
     cases e311
     replace p311 := eq_true p311
     replace q311 := eq_true q311
     go_wp2
     go_ret
     exact ⟨rfl, by apply_rules (transparency := .reducible) [HB.1, bwA, bwN, bwD]⟩
    rw [if_neg c9] at H
    exact absurd H (by simp)
   rw [if_neg c8] at H
   have c8b0 : ((rd y304 x5_1) == a0) = false := beq_eq_false_iff_ne.mpr c8
   have c8b1 : ((rd y304 x5_1) != a0) = true := bne_iff_ne.mpr c8
   have H' := aM H
   clear H
   obtain ⟨Ao12, co12, eo12⟩ := Kd.R_slice HO_3.out
   subst eo12
   have p310 : 0 ≤ (x5_1 : Int) := of_decide_eq_true (by first | (with_reducible assumption) | assumption)
   have q310 : x5_1 < (y304.length : Int) := of_decide_eq_true (by first | (with_reducible assumption) | assumption)
   obtain ⟨ad310, e310, hx310_0⟩ := Kd.at_int (Kd.R_reads' HO_3.out).2.2 x5_1 p310 q310
   cases e310
   replace p310 := eq_true p310
   replace q310 := eq_true q310
   go_wp2
   go_roundg k1
   case measure => have := HK1.out; omega
   case rel => exact ⟨(wrap64 (x5_1 + 1)), rfl, H', ⟨by have := HK1.out; omega⟩, ⟨by (with_reducible repeat first | apply Kd.R_alloc | apply Kd.R_drewN | apply Kd.R_drew); exact HO_3.out⟩, ⟨by (with_reducible repeat first | apply Kd.R_alloc | apply Kd.R_drewN | apply Kd.R_drew); exact HO_4.out⟩, ⟨by apply_rules (transparency := .reducible) [HB.1, bwA, bwN, bwD]⟩⟩
  rw [if_neg c7] at H
  exact absurd H (by simp)
 rw [if_neg c6] at H
 have c6b0 : decide (x5_1 < (y304.length : Int)) = false := decide_eq_false c6
 clear c6
 obtain rfl := Option.some.inj H
 obtain ⟨Ao13, co13, eo13⟩ := Kd.R_slice HO_3.out
 subst eo13
 go_wp2
 go_ret
 exact ⟨rfl, by apply_rules (transparency := .reducible) [HB.1, bwA, bwN, bwD]⟩

/-! ### bodkinref19_control: function 53 -/
def bodkinref19_control.f (a0 : Int) : Option (Int × Int × ByteArray × Int) := (some (([29, 8, 4, 40, 14, 9, 5, 37, 15, 1, 2, 18, 38, 3, 11, 40, 10, 40, 36, 40, 24, 19, 40, 20, 40, 22, 40, 40, 40, 40, 33, 32] : List Int) : List Int)).bind fun y313 => (if a0 = 63 then (some (15, 0, (⟨#[]⟩ : ByteArray), 0)) else (if a0 = 64 then (some (29, 0, (⟨#[]⟩ : ByteArray), 64)) else (if a0 = 73 then ((bodkinref19_insert.f (⟨#[9]⟩ : ByteArray)).bind fun bt316 => (some (bt316.1, bt316.2.1, bt316.2.2.1, bt316.2.2.2))) else (if a0 > 64 then (if a0 ≤ 95 then (if 0 ≤ (wrap32 (a0 - 64)) then (if (wrap32 (a0 - 64)) < (y313.length : Int) then (some (rd y313 (wrap32 (a0 - 64)), 0, (⟨#[]⟩ : ByteArray), 0)) else (none)) else (none)) else (some (40, 0, (⟨#[]⟩ : ByteArray), 0))) else (some (40, 0, (⟨#[]⟩ : ByteArray), 0))))))
set_option maxHeartbeats 8000000 in
set_option maxRecDepth 100000 in
theorem bodkinref19_control.calls (a0 : Int) (r1 : Int) (r2 : Int) (r3 : ByteArray) (r4 : Int) (w : World) (h : bodkinref19_control.f a0 = some (r1, r2, r3, r4)) :
    Calls Try.prog 53 #[.int .i32 a0] w fun e w' => e = .returned (.agg #[.int .i64 r1, .int .i64 r2, .string r3, .int .u8 r4]) ∧ Below w.heap.size w w' := by
 have hu36 := Try.underlying36
 have HB := aM (Below.refl w.heap.size w)
 have H : ((some (([29, 8, 4, 40, 14, 9, 5, 37, 15, 1, 2, 18, 38, 3, 11, 40, 10, 40, 36, 40, 24, 19, 40, 20, 40, 22, 40, 40, 40, 40, 33, 32] : List Int) : List Int)).bind fun y313 => (if a0 = 63 then (some (15, 0, (⟨#[]⟩ : ByteArray), 0)) else (if a0 = 64 then (some (29, 0, (⟨#[]⟩ : ByteArray), 64)) else (if a0 = 73 then ((bodkinref19_insert.f (⟨#[9]⟩ : ByteArray)).bind fun bt316 => (some (bt316.1, bt316.2.1, bt316.2.2.1, bt316.2.2.2))) else (if a0 > 64 then (if a0 ≤ 95 then (if 0 ≤ (wrap32 (a0 - 64)) then (if (wrap32 (a0 - 64)) < (y313.length : Int) then (some (rd y313 (wrap32 (a0 - 64)), 0, (⟨#[]⟩ : ByteArray), 0)) else (none)) else (none)) else (some (40, 0, (⟨#[]⟩ : ByteArray), 0))) else (some (40, 0, (⟨#[]⟩ : ByteArray), 0))))))) = some (r1, r2, r3, r4) := h
 clear h
 obtain ⟨y313, hy313⟩ : ∃ y_ : List Int, y_ = (([29, 8, 4, 40, 14, 9, 5, 37, 15, 1, 2, 18, 38, 3, 11, 40, 10, 40, 36, 40, 24, 19, 40, 20, 40, 22, 40, 40, 40, 40, 33, 32] : List Int)) := ⟨_, rfl⟩
 replace H : (if a0 = 63 then (some (15, 0, (⟨#[]⟩ : ByteArray), 0)) else (if a0 = 64 then (some (29, 0, (⟨#[]⟩ : ByteArray), 64)) else (if a0 = 73 then ((bodkinref19_insert.f (⟨#[9]⟩ : ByteArray)).bind fun bt316 => (some (bt316.1, bt316.2.1, bt316.2.2.1, bt316.2.2.2))) else (if a0 > 64 then (if a0 ≤ 95 then (if 0 ≤ (wrap32 (a0 - 64)) then (if (wrap32 (a0 - 64)) < (y313.length : Int) then (some (rd y313 (wrap32 (a0 - 64)), 0, (⟨#[]⟩ : ByteArray), 0)) else (none)) else (none)) else (some (40, 0, (⟨#[]⟩ : ByteArray), 0))) else (some (40, 0, (⟨#[]⟩ : ByteArray), 0)))))) = some (r1, r2, r3, r4) := by first | (rw [hy313]; with_reducible exact H) | (have H2_ := (Option.bind_some _ _).symm.trans H; rw [hy313]; with_reducible exact H2_) | (have H2_ := (Option.bind_some _ _).symm.trans H; with_reducible exact H2_) | with_reducible exact H | (rw [hy313]; exact H) | exact H
 have Ny313 := aM hy313
 clear hy313
 by_cases c2 : a0 = 63
 ·rw [if_pos c2] at H
  have c2b0 : (a0 == 63) = true := beq_iff_eq.mpr c2
  have c2b1 : (a0 != 63) = false := bne_eq_false_iff_eq.mpr c2
  clear c2
  simp only [Option.some.injEq, Prod.mk.injEq] at H
  obtain ⟨rfl, rfl, rfl, rfl⟩ := H
  go_enter Try.func53, Try.ntmps53
  go_wp2_with (first | ((with_reducible refine gate_dst (N := 2) rfl ?_); refine box_event ?hg (N := 2) ?hd (cs := #[.int .i64 0, .int .i64 0, .string (⟨#[]⟩ : ByteArray), .int .u8 0]) (t := 36) ?hr ?_; (case hd => rfl); (case hg => rfl); (case hr => first | (go_simp; done) | (go_simp; rfl)); intro gb312 hg w3 hbox hb; have BK312 := aM (hbox); have GW312 := aM ((by rw [hg]; exact (bwZ (by apply_rules (transparency := .reducible) [HB.1, bwA, bwN, bwD])) : w.heap.size ≤ gb312)); have GE312 := aM ((by rw [hg]; exact (bwZ (by apply_rules (transparency := .reducible) [HB.1, bwA, bwN, bwD])) : w.heap.size ≤ gb312)); replace HB := aM (bwP (by apply_rules (transparency := .reducible) [HB.1, bwA, bwN, bwD]) hb); clear hb hbox hg) | ((with_reducible refine gate_dst (N := 4) rfl ?_); refine Kd.R_lit (Kd.int .i64) _ 34 ?hg (N := 4) ?hd (xs := ([29, 8, 4, 40, 14, 9, 5, 37, 15, 1, 2, 18, 38, 3, 11, 40, 10, 40, 36, 40, 24, 19, 40, 20, 40, 22, 40, 40, 40, 40, 33, 32] : List Int)) (inner := [.int .i64 29, .int .i64 8, .int .i64 4, .int .i64 40, .int .i64 14, .int .i64 9, .int .i64 5, .int .i64 37, .int .i64 15, .int .i64 1, .int .i64 2, .int .i64 18, .int .i64 38, .int .i64 3, .int .i64 11, .int .i64 40, .int .i64 10, .int .i64 40, .int .i64 36, .int .i64 40, .int .i64 24, .int .i64 19, .int .i64 40, .int .i64 20, .int .i64 40, .int .i64 22, .int .i64 40, .int .i64 40, .int .i64 40, .int .i64 40, .int .i64 33, .int .i64 32]) (ok := fun _ => True) (okp := fun _ => True) ?hr ?hp (fun _ hk => hk) trivial (Below.refl _ _) (Nat.le_refl _) (by simp) ?_; (case hd => rfl); (case hg => rfl); (case hr => first | (go_simp; done) | (go_simp; rfl)); (case hp => exact (Reps.one (show Kd.M (Kd.int .i64) _ _ _ 29 [.int .i64 29] from rfl) (Reps.one (show Kd.M (Kd.int .i64) _ _ _ 8 [.int .i64 8] from rfl) (Reps.one (show Kd.M (Kd.int .i64) _ _ _ 4 [.int .i64 4] from rfl) (Reps.one (show Kd.M (Kd.int .i64) _ _ _ 40 [.int .i64 40] from rfl) (Reps.one (show Kd.M (Kd.int .i64) _ _ _ 14 [.int .i64 14] from rfl) (Reps.one (show Kd.M (Kd.int .i64) _ _ _ 9 [.int .i64 9] from rfl) (Reps.one (show Kd.M (Kd.int .i64) _ _ _ 5 [.int .i64 5] from rfl) (Reps.one (show Kd.M (Kd.int .i64) _ _ _ 37 [.int .i64 37] from rfl) (Reps.one (show Kd.M (Kd.int .i64) _ _ _ 15 [.int .i64 15] from rfl) (Reps.one (show Kd.M (Kd.int .i64) _ _ _ 1 [.int .i64 1] from rfl) (Reps.one (show Kd.M (Kd.int .i64) _ _ _ 2 [.int .i64 2] from rfl) (Reps.one (show Kd.M (Kd.int .i64) _ _ _ 18 [.int .i64 18] from rfl) (Reps.one (show Kd.M (Kd.int .i64) _ _ _ 38 [.int .i64 38] from rfl) (Reps.one (show Kd.M (Kd.int .i64) _ _ _ 3 [.int .i64 3] from rfl) (Reps.one (show Kd.M (Kd.int .i64) _ _ _ 11 [.int .i64 11] from rfl) (Reps.one (show Kd.M (Kd.int .i64) _ _ _ 40 [.int .i64 40] from rfl) (Reps.one (show Kd.M (Kd.int .i64) _ _ _ 10 [.int .i64 10] from rfl) (Reps.one (show Kd.M (Kd.int .i64) _ _ _ 40 [.int .i64 40] from rfl) (Reps.one (show Kd.M (Kd.int .i64) _ _ _ 36 [.int .i64 36] from rfl) (Reps.one (show Kd.M (Kd.int .i64) _ _ _ 40 [.int .i64 40] from rfl) (Reps.one (show Kd.M (Kd.int .i64) _ _ _ 24 [.int .i64 24] from rfl) (Reps.one (show Kd.M (Kd.int .i64) _ _ _ 19 [.int .i64 19] from rfl) (Reps.one (show Kd.M (Kd.int .i64) _ _ _ 40 [.int .i64 40] from rfl) (Reps.one (show Kd.M (Kd.int .i64) _ _ _ 20 [.int .i64 20] from rfl) (Reps.one (show Kd.M (Kd.int .i64) _ _ _ 40 [.int .i64 40] from rfl) (Reps.one (show Kd.M (Kd.int .i64) _ _ _ 22 [.int .i64 22] from rfl) (Reps.one (show Kd.M (Kd.int .i64) _ _ _ 40 [.int .i64 40] from rfl) (Reps.one (show Kd.M (Kd.int .i64) _ _ _ 40 [.int .i64 40] from rfl) (Reps.one (show Kd.M (Kd.int .i64) _ _ _ 40 [.int .i64 40] from rfl) (Reps.one (show Kd.M (Kd.int .i64) _ _ _ 40 [.int .i64 40] from rfl) (Reps.one (show Kd.M (Kd.int .i64) _ _ _ 33 [.int .i64 33] from rfl) (Reps.one (show Kd.M (Kd.int .i64) _ _ _ 32 [.int .i64 32] from rfl) (Reps.none _ _)))))))))))))))))))))))))))))))))); intro v314 w4 ho5 hb hg_ hnew_; clear hg_ hnew_; (first | rw [← Ny313.1] at ho5 | (simp only [Int.reduceToNat] at ho5; rw [← Ny313.1] at ho5)); have HO315 := aM (Kd.R_lower ho5 (bwZ (by apply_rules (transparency := .reducible) [HB.1, bwA, bwN, bwD, bwS, GE312.1]))); replace BK312 := aM (bkB (g := gb312) (o := .cells #[.int .i64 0, .int .i64 0, .string (⟨#[]⟩ : ByteArray), .int .u8 0] 36 (0, 0)) (by apply_rules (transparency := .reducible) [BK312.1, bkN, bkD, bkA]) hb); replace HB := aM (bwP (by apply_rules (transparency := .reducible) [HB.1, bwA, bwN, bwD, bwS, GE312.1]) hb); clear hb ho5; obtain ⟨z6_0, z6_1, z6_2, z6_3, z6_4, z6_5, z6_6, z6_7⟩ := bx4 BK312.1))
  refine bodyPost_ret (results_cell_row rfl _ _ gb312 36 #[.int .i64 15, .int .i64 0, .string (⟨#[]⟩ : ByteArray), .int .u8 0] (0, 0) _ rfl (by (with_reducible repeat first | apply bkN | apply bkD | apply bkA); refine put4 (cs := #[.int .i64 0, .int .i64 0, .string (⟨#[]⟩ : ByteArray), .int .u8 0]) ?_ rfl; (with_reducible repeat first | apply bkN | apply bkD | apply bkA); exact BK312.1) Try.underlying36 rfl (by kernel_rfl)) rfl ?_
  exact ⟨rfl, by apply_rules (transparency := .reducible) [HB.1, bwA, bwN, bwD, bwS, GE312.1]⟩
 rw [if_neg c2] at H
 have c2b0 : (a0 == 63) = false := beq_eq_false_iff_ne.mpr c2
 have c2b1 : (a0 != 63) = true := bne_iff_ne.mpr c2
 by_cases c7 : a0 = 64
 ·rw [if_pos c7] at H
  have c7b0 : (a0 == 64) = true := beq_iff_eq.mpr c7
  have c7b1 : (a0 != 64) = false := bne_eq_false_iff_eq.mpr c7
  clear c7
  simp only [Option.some.injEq, Prod.mk.injEq] at H
  obtain ⟨rfl, rfl, rfl, rfl⟩ := H
  go_enter Try.func53, Try.ntmps53
  go_wp2_with (first | ((with_reducible refine gate_dst (N := 2) rfl ?_); refine box_event ?hg (N := 2) ?hd (cs := #[.int .i64 0, .int .i64 0, .string (⟨#[]⟩ : ByteArray), .int .u8 0]) (t := 36) ?hr ?_; (case hd => rfl); (case hg => rfl); (case hr => first | (go_simp; done) | (go_simp; rfl)); intro gb312 hg w8 hbox hb; have BK312 := aM (hbox); have GW312 := aM ((by rw [hg]; exact (bwZ (by apply_rules (transparency := .reducible) [HB.1, bwA, bwN, bwD])) : w.heap.size ≤ gb312)); have GE312 := aM ((by rw [hg]; exact (bwZ (by apply_rules (transparency := .reducible) [HB.1, bwA, bwN, bwD])) : w.heap.size ≤ gb312)); replace HB := aM (bwP (by apply_rules (transparency := .reducible) [HB.1, bwA, bwN, bwD]) hb); clear hb hbox hg) | ((with_reducible refine gate_dst (N := 4) rfl ?_); refine Kd.R_lit (Kd.int .i64) _ 34 ?hg (N := 4) ?hd (xs := ([29, 8, 4, 40, 14, 9, 5, 37, 15, 1, 2, 18, 38, 3, 11, 40, 10, 40, 36, 40, 24, 19, 40, 20, 40, 22, 40, 40, 40, 40, 33, 32] : List Int)) (inner := [.int .i64 29, .int .i64 8, .int .i64 4, .int .i64 40, .int .i64 14, .int .i64 9, .int .i64 5, .int .i64 37, .int .i64 15, .int .i64 1, .int .i64 2, .int .i64 18, .int .i64 38, .int .i64 3, .int .i64 11, .int .i64 40, .int .i64 10, .int .i64 40, .int .i64 36, .int .i64 40, .int .i64 24, .int .i64 19, .int .i64 40, .int .i64 20, .int .i64 40, .int .i64 22, .int .i64 40, .int .i64 40, .int .i64 40, .int .i64 40, .int .i64 33, .int .i64 32]) (ok := fun _ => True) (okp := fun _ => True) ?hr ?hp (fun _ hk => hk) trivial (Below.refl _ _) (Nat.le_refl _) (by simp) ?_; (case hd => rfl); (case hg => rfl); (case hr => first | (go_simp; done) | (go_simp; rfl)); (case hp => exact (Reps.one (show Kd.M (Kd.int .i64) _ _ _ 29 [.int .i64 29] from rfl) (Reps.one (show Kd.M (Kd.int .i64) _ _ _ 8 [.int .i64 8] from rfl) (Reps.one (show Kd.M (Kd.int .i64) _ _ _ 4 [.int .i64 4] from rfl) (Reps.one (show Kd.M (Kd.int .i64) _ _ _ 40 [.int .i64 40] from rfl) (Reps.one (show Kd.M (Kd.int .i64) _ _ _ 14 [.int .i64 14] from rfl) (Reps.one (show Kd.M (Kd.int .i64) _ _ _ 9 [.int .i64 9] from rfl) (Reps.one (show Kd.M (Kd.int .i64) _ _ _ 5 [.int .i64 5] from rfl) (Reps.one (show Kd.M (Kd.int .i64) _ _ _ 37 [.int .i64 37] from rfl) (Reps.one (show Kd.M (Kd.int .i64) _ _ _ 15 [.int .i64 15] from rfl) (Reps.one (show Kd.M (Kd.int .i64) _ _ _ 1 [.int .i64 1] from rfl) (Reps.one (show Kd.M (Kd.int .i64) _ _ _ 2 [.int .i64 2] from rfl) (Reps.one (show Kd.M (Kd.int .i64) _ _ _ 18 [.int .i64 18] from rfl) (Reps.one (show Kd.M (Kd.int .i64) _ _ _ 38 [.int .i64 38] from rfl) (Reps.one (show Kd.M (Kd.int .i64) _ _ _ 3 [.int .i64 3] from rfl) (Reps.one (show Kd.M (Kd.int .i64) _ _ _ 11 [.int .i64 11] from rfl) (Reps.one (show Kd.M (Kd.int .i64) _ _ _ 40 [.int .i64 40] from rfl) (Reps.one (show Kd.M (Kd.int .i64) _ _ _ 10 [.int .i64 10] from rfl) (Reps.one (show Kd.M (Kd.int .i64) _ _ _ 40 [.int .i64 40] from rfl) (Reps.one (show Kd.M (Kd.int .i64) _ _ _ 36 [.int .i64 36] from rfl) (Reps.one (show Kd.M (Kd.int .i64) _ _ _ 40 [.int .i64 40] from rfl) (Reps.one (show Kd.M (Kd.int .i64) _ _ _ 24 [.int .i64 24] from rfl) (Reps.one (show Kd.M (Kd.int .i64) _ _ _ 19 [.int .i64 19] from rfl) (Reps.one (show Kd.M (Kd.int .i64) _ _ _ 40 [.int .i64 40] from rfl) (Reps.one (show Kd.M (Kd.int .i64) _ _ _ 20 [.int .i64 20] from rfl) (Reps.one (show Kd.M (Kd.int .i64) _ _ _ 40 [.int .i64 40] from rfl) (Reps.one (show Kd.M (Kd.int .i64) _ _ _ 22 [.int .i64 22] from rfl) (Reps.one (show Kd.M (Kd.int .i64) _ _ _ 40 [.int .i64 40] from rfl) (Reps.one (show Kd.M (Kd.int .i64) _ _ _ 40 [.int .i64 40] from rfl) (Reps.one (show Kd.M (Kd.int .i64) _ _ _ 40 [.int .i64 40] from rfl) (Reps.one (show Kd.M (Kd.int .i64) _ _ _ 40 [.int .i64 40] from rfl) (Reps.one (show Kd.M (Kd.int .i64) _ _ _ 33 [.int .i64 33] from rfl) (Reps.one (show Kd.M (Kd.int .i64) _ _ _ 32 [.int .i64 32] from rfl) (Reps.none _ _)))))))))))))))))))))))))))))))))); intro v314 w9 ho10 hb hg_ hnew_; clear hg_ hnew_; (first | rw [← Ny313.1] at ho10 | (simp only [Int.reduceToNat] at ho10; rw [← Ny313.1] at ho10)); have HO315 := aM (Kd.R_lower ho10 (bwZ (by apply_rules (transparency := .reducible) [HB.1, bwA, bwN, bwD, bwS, GE312.1]))); replace BK312 := aM (bkB (g := gb312) (o := .cells #[.int .i64 0, .int .i64 0, .string (⟨#[]⟩ : ByteArray), .int .u8 0] 36 (0, 0)) (by apply_rules (transparency := .reducible) [BK312.1, bkN, bkD, bkA]) hb); replace HB := aM (bwP (by apply_rules (transparency := .reducible) [HB.1, bwA, bwN, bwD, bwS, GE312.1]) hb); clear hb ho10; obtain ⟨z11_0, z11_1, z11_2, z11_3, z11_4, z11_5, z11_6, z11_7⟩ := bx4 BK312.1))
  refine bodyPost_ret (results_cell_row rfl _ _ gb312 36 #[.int .i64 29, .int .i64 0, .string (⟨#[]⟩ : ByteArray), .int .u8 64] (0, 0) _ rfl (by (with_reducible repeat first | apply bkN | apply bkD | apply bkA); refine put4 (cs := #[.int .i64 0, .int .i64 0, .string (⟨#[]⟩ : ByteArray), .int .u8 0]) ?_ rfl; (with_reducible repeat first | apply bkN | apply bkD | apply bkA); exact BK312.1) Try.underlying36 rfl (by kernel_rfl)) rfl ?_
  exact ⟨rfl, by apply_rules (transparency := .reducible) [HB.1, bwA, bwN, bwD, bwS, GE312.1]⟩
 rw [if_neg c7] at H
 have c7b0 : (a0 == 64) = false := beq_eq_false_iff_ne.mpr c7
 have c7b1 : (a0 != 64) = true := bne_iff_ne.mpr c7
 by_cases c12 : a0 = 73
 ·rw [if_pos c12] at H
  have c12b0 : (a0 == 73) = true := beq_iff_eq.mpr c12
  have c12b1 : (a0 != 73) = false := bne_eq_false_iff_eq.mpr c12
  clear c12
  replace H := Option.bind_eq_some_iff.mp H
  obtain ⟨⟨t316, t317, t318, t319⟩, A130, H⟩ := H
  replace H : (some (t316, t317, t318, t319)) = some (r1, r2, r3, r4) := H
  have A13 := aM A130
  clear A130
  simp only [Option.some.injEq, Prod.mk.injEq] at H
  obtain ⟨rfl, rfl, rfl, rfl⟩ := H
  go_enter Try.func53, Try.ntmps53
  go_wp2_with (first | ((with_reducible refine gate_dst (N := 2) rfl ?_); refine box_event ?hg (N := 2) ?hd (cs := #[.int .i64 0, .int .i64 0, .string (⟨#[]⟩ : ByteArray), .int .u8 0]) (t := 36) ?hr ?_; (case hd => rfl); (case hg => rfl); (case hr => first | (go_simp; done) | (go_simp; rfl)); intro gb312 hg w14 hbox hb; have BK312 := aM (hbox); have GW312 := aM ((by rw [hg]; exact (bwZ (by apply_rules (transparency := .reducible) [HB.1, bwA, bwN, bwD])) : w.heap.size ≤ gb312)); have GE312 := aM ((by rw [hg]; exact (bwZ (by apply_rules (transparency := .reducible) [HB.1, bwA, bwN, bwD])) : w.heap.size ≤ gb312)); replace HB := aM (bwP (by apply_rules (transparency := .reducible) [HB.1, bwA, bwN, bwD]) hb); clear hb hbox hg) | ((with_reducible refine gate_dst (N := 4) rfl ?_); refine Kd.R_lit (Kd.int .i64) _ 34 ?hg (N := 4) ?hd (xs := ([29, 8, 4, 40, 14, 9, 5, 37, 15, 1, 2, 18, 38, 3, 11, 40, 10, 40, 36, 40, 24, 19, 40, 20, 40, 22, 40, 40, 40, 40, 33, 32] : List Int)) (inner := [.int .i64 29, .int .i64 8, .int .i64 4, .int .i64 40, .int .i64 14, .int .i64 9, .int .i64 5, .int .i64 37, .int .i64 15, .int .i64 1, .int .i64 2, .int .i64 18, .int .i64 38, .int .i64 3, .int .i64 11, .int .i64 40, .int .i64 10, .int .i64 40, .int .i64 36, .int .i64 40, .int .i64 24, .int .i64 19, .int .i64 40, .int .i64 20, .int .i64 40, .int .i64 22, .int .i64 40, .int .i64 40, .int .i64 40, .int .i64 40, .int .i64 33, .int .i64 32]) (ok := fun _ => True) (okp := fun _ => True) ?hr ?hp (fun _ hk => hk) trivial (Below.refl _ _) (Nat.le_refl _) (by simp) ?_; (case hd => rfl); (case hg => rfl); (case hr => first | (go_simp; done) | (go_simp; rfl)); (case hp => exact (Reps.one (show Kd.M (Kd.int .i64) _ _ _ 29 [.int .i64 29] from rfl) (Reps.one (show Kd.M (Kd.int .i64) _ _ _ 8 [.int .i64 8] from rfl) (Reps.one (show Kd.M (Kd.int .i64) _ _ _ 4 [.int .i64 4] from rfl) (Reps.one (show Kd.M (Kd.int .i64) _ _ _ 40 [.int .i64 40] from rfl) (Reps.one (show Kd.M (Kd.int .i64) _ _ _ 14 [.int .i64 14] from rfl) (Reps.one (show Kd.M (Kd.int .i64) _ _ _ 9 [.int .i64 9] from rfl) (Reps.one (show Kd.M (Kd.int .i64) _ _ _ 5 [.int .i64 5] from rfl) (Reps.one (show Kd.M (Kd.int .i64) _ _ _ 37 [.int .i64 37] from rfl) (Reps.one (show Kd.M (Kd.int .i64) _ _ _ 15 [.int .i64 15] from rfl) (Reps.one (show Kd.M (Kd.int .i64) _ _ _ 1 [.int .i64 1] from rfl) (Reps.one (show Kd.M (Kd.int .i64) _ _ _ 2 [.int .i64 2] from rfl) (Reps.one (show Kd.M (Kd.int .i64) _ _ _ 18 [.int .i64 18] from rfl) (Reps.one (show Kd.M (Kd.int .i64) _ _ _ 38 [.int .i64 38] from rfl) (Reps.one (show Kd.M (Kd.int .i64) _ _ _ 3 [.int .i64 3] from rfl) (Reps.one (show Kd.M (Kd.int .i64) _ _ _ 11 [.int .i64 11] from rfl) (Reps.one (show Kd.M (Kd.int .i64) _ _ _ 40 [.int .i64 40] from rfl) (Reps.one (show Kd.M (Kd.int .i64) _ _ _ 10 [.int .i64 10] from rfl) (Reps.one (show Kd.M (Kd.int .i64) _ _ _ 40 [.int .i64 40] from rfl) (Reps.one (show Kd.M (Kd.int .i64) _ _ _ 36 [.int .i64 36] from rfl) (Reps.one (show Kd.M (Kd.int .i64) _ _ _ 40 [.int .i64 40] from rfl) (Reps.one (show Kd.M (Kd.int .i64) _ _ _ 24 [.int .i64 24] from rfl) (Reps.one (show Kd.M (Kd.int .i64) _ _ _ 19 [.int .i64 19] from rfl) (Reps.one (show Kd.M (Kd.int .i64) _ _ _ 40 [.int .i64 40] from rfl) (Reps.one (show Kd.M (Kd.int .i64) _ _ _ 20 [.int .i64 20] from rfl) (Reps.one (show Kd.M (Kd.int .i64) _ _ _ 40 [.int .i64 40] from rfl) (Reps.one (show Kd.M (Kd.int .i64) _ _ _ 22 [.int .i64 22] from rfl) (Reps.one (show Kd.M (Kd.int .i64) _ _ _ 40 [.int .i64 40] from rfl) (Reps.one (show Kd.M (Kd.int .i64) _ _ _ 40 [.int .i64 40] from rfl) (Reps.one (show Kd.M (Kd.int .i64) _ _ _ 40 [.int .i64 40] from rfl) (Reps.one (show Kd.M (Kd.int .i64) _ _ _ 40 [.int .i64 40] from rfl) (Reps.one (show Kd.M (Kd.int .i64) _ _ _ 33 [.int .i64 33] from rfl) (Reps.one (show Kd.M (Kd.int .i64) _ _ _ 32 [.int .i64 32] from rfl) (Reps.none _ _)))))))))))))))))))))))))))))))))); intro v314 w15 ho16 hb hg_ hnew_; clear hg_ hnew_; (first | rw [← Ny313.1] at ho16 | (simp only [Int.reduceToNat] at ho16; rw [← Ny313.1] at ho16)); have HO315 := aM (Kd.R_lower ho16 (bwZ (by apply_rules (transparency := .reducible) [HB.1, bwA, bwN, bwD, bwS, GE312.1]))); replace BK312 := aM (bkB (g := gb312) (o := .cells #[.int .i64 0, .int .i64 0, .string (⟨#[]⟩ : ByteArray), .int .u8 0] 36 (0, 0)) (by apply_rules (transparency := .reducible) [BK312.1, bkN, bkD, bkA]) hb); replace HB := aM (bwP (by apply_rules (transparency := .reducible) [HB.1, bwA, bwN, bwD, bwS, GE312.1]) hb); clear hb ho16) | ((with_reducible refine gate_callee (f := 50) rfl ?_); refine goesL_ (some 16) rfl rfl Try.func50 (by kernel_rfl) rfl #[.string (⟨#[9]⟩ : ByteArray)] rfl (by (try simp only [List.map_toArray, List.map_cons, List.map_nil]); first | done | rfl) ?_; (with_reducible refine (bodkinref19_insert.calls (⟨#[9]⟩ : ByteArray) t316 t317 t318 t319 _ A13.1).mono ?_); rintro e w17 ⟨rfl, hb⟩; refine ⟨_, rfl, ?_⟩; replace HO315 := aM (Kd.R_below (by (with_reducible repeat first | apply Kd.R_alloc | apply Kd.R_drewN | apply Kd.R_drew); exact HO315.1) hb); replace BK312 := aM (bkB (g := gb312) (o := .cells #[.int .i64 0, .int .i64 0, .string (⟨#[]⟩ : ByteArray), .int .u8 0] 36 (0, 0)) (by apply_rules (transparency := .reducible) [BK312.1, bkN, bkD, bkA]) hb); replace HB := aM (bwP (by apply_rules (transparency := .reducible) [HB.1, bwA, bwN, bwD, bwS, GE312.1]) hb); (try clear hb); (try clear hb2); (try clear hk); (try clear hi); obtain ⟨z18_0, z18_1, z18_2, z18_3, z18_4, z18_5, z18_6, z18_7⟩ := bx4 BK312.1))
  refine bodyPost_ret (results_cell_row rfl _ _ gb312 36 #[.int .i64 t316, .int .i64 t317, .string t318, .int .u8 t319] (0, 0) _ rfl (by (with_reducible repeat first | apply bkN | apply bkD | apply bkA); refine put4 (cs := #[.int .i64 0, .int .i64 0, .string (⟨#[]⟩ : ByteArray), .int .u8 0]) ?_ rfl; (with_reducible repeat first | apply bkN | apply bkD | apply bkA); exact BK312.1) Try.underlying36 rfl (by kernel_rfl)) rfl ?_
  exact ⟨rfl, by apply_rules (transparency := .reducible) [HB.1, bwA, bwN, bwD, bwS, GE312.1]⟩
 rw [if_neg c12] at H
 have c12b0 : (a0 == 73) = false := beq_eq_false_iff_ne.mpr c12
 have c12b1 : (a0 != 73) = true := bne_iff_ne.mpr c12
 by_cases c19 : a0 > 64
 ·rw [if_pos c19] at H
  have c19b0 : decide (64 < a0) = true := decide_eq_true c19
  clear c19
  by_cases c20 : a0 ≤ 95
  ·rw [if_pos c20] at H
   have c20b0 : decide (a0 ≤ 95) = true := decide_eq_true c20
   clear c20
   obtain ⟨ji21, hji21⟩ : ∃ j_ : Int, (wrap32 (a0 - 64)) = j_ := ⟨_, rfl⟩
   replace H : (if 0 ≤ (ji21) then (if (ji21) < (y313.length : Int) then (some (rd y313 (ji21), 0, (⟨#[]⟩ : ByteArray), 0)) else (none)) else (none)) = some (r1, r2, r3, r4) := by first | (rw [hji21] at H; exact H) | (simp only [hji21] at H ⊢; exact H)
   have hji21w : (IntKind.i32.wrap (a0 - 64)) = ji21 := (i32_w _).trans hji21
   by_cases c22 : 0 ≤ (ji21)
   ·rw [if_pos c22] at H
    have c22b0 : decide (0 ≤ (ji21)) = true := decide_eq_true c22
    clear c22
    by_cases c23 : (ji21) < (y313.length : Int)
    ·rw [if_pos c23] at H
     have c23b0 : decide ((ji21) < (y313.length : Int)) = true := decide_eq_true c23
     clear c23
     simp only [Option.some.injEq, Prod.mk.injEq] at H
     obtain ⟨rfl, rfl, rfl, rfl⟩ := H
     go_enter Try.func53, Try.ntmps53
     go_wp2_with (first | ((with_reducible refine gate_dst (N := 2) rfl ?_); refine box_event ?hg (N := 2) ?hd (cs := #[.int .i64 0, .int .i64 0, .string (⟨#[]⟩ : ByteArray), .int .u8 0]) (t := 36) ?hr ?_; (case hd => rfl); (case hg => rfl); (case hr => first | (go_simp; done) | (go_simp; rfl)); intro gb312 hg w24 hbox hb; have BK312 := aM (hbox); have GW312 := aM ((by rw [hg]; exact (bwZ (by apply_rules (transparency := .reducible) [HB.1, bwA, bwN, bwD])) : w.heap.size ≤ gb312)); have GE312 := aM ((by rw [hg]; exact (bwZ (by apply_rules (transparency := .reducible) [HB.1, bwA, bwN, bwD])) : w.heap.size ≤ gb312)); replace HB := aM (bwP (by apply_rules (transparency := .reducible) [HB.1, bwA, bwN, bwD]) hb); clear hb hbox hg) | ((with_reducible refine gate_dst (N := 4) rfl ?_); refine Kd.R_lit (Kd.int .i64) _ 34 ?hg (N := 4) ?hd (xs := ([29, 8, 4, 40, 14, 9, 5, 37, 15, 1, 2, 18, 38, 3, 11, 40, 10, 40, 36, 40, 24, 19, 40, 20, 40, 22, 40, 40, 40, 40, 33, 32] : List Int)) (inner := [.int .i64 29, .int .i64 8, .int .i64 4, .int .i64 40, .int .i64 14, .int .i64 9, .int .i64 5, .int .i64 37, .int .i64 15, .int .i64 1, .int .i64 2, .int .i64 18, .int .i64 38, .int .i64 3, .int .i64 11, .int .i64 40, .int .i64 10, .int .i64 40, .int .i64 36, .int .i64 40, .int .i64 24, .int .i64 19, .int .i64 40, .int .i64 20, .int .i64 40, .int .i64 22, .int .i64 40, .int .i64 40, .int .i64 40, .int .i64 40, .int .i64 33, .int .i64 32]) (ok := fun _ => True) (okp := fun _ => True) ?hr ?hp (fun _ hk => hk) trivial (Below.refl _ _) (Nat.le_refl _) (by simp) ?_; (case hd => rfl); (case hg => rfl); (case hr => first | (go_simp; done) | (go_simp; rfl)); (case hp => exact (Reps.one (show Kd.M (Kd.int .i64) _ _ _ 29 [.int .i64 29] from rfl) (Reps.one (show Kd.M (Kd.int .i64) _ _ _ 8 [.int .i64 8] from rfl) (Reps.one (show Kd.M (Kd.int .i64) _ _ _ 4 [.int .i64 4] from rfl) (Reps.one (show Kd.M (Kd.int .i64) _ _ _ 40 [.int .i64 40] from rfl) (Reps.one (show Kd.M (Kd.int .i64) _ _ _ 14 [.int .i64 14] from rfl) (Reps.one (show Kd.M (Kd.int .i64) _ _ _ 9 [.int .i64 9] from rfl) (Reps.one (show Kd.M (Kd.int .i64) _ _ _ 5 [.int .i64 5] from rfl) (Reps.one (show Kd.M (Kd.int .i64) _ _ _ 37 [.int .i64 37] from rfl) (Reps.one (show Kd.M (Kd.int .i64) _ _ _ 15 [.int .i64 15] from rfl) (Reps.one (show Kd.M (Kd.int .i64) _ _ _ 1 [.int .i64 1] from rfl) (Reps.one (show Kd.M (Kd.int .i64) _ _ _ 2 [.int .i64 2] from rfl) (Reps.one (show Kd.M (Kd.int .i64) _ _ _ 18 [.int .i64 18] from rfl) (Reps.one (show Kd.M (Kd.int .i64) _ _ _ 38 [.int .i64 38] from rfl) (Reps.one (show Kd.M (Kd.int .i64) _ _ _ 3 [.int .i64 3] from rfl) (Reps.one (show Kd.M (Kd.int .i64) _ _ _ 11 [.int .i64 11] from rfl) (Reps.one (show Kd.M (Kd.int .i64) _ _ _ 40 [.int .i64 40] from rfl) (Reps.one (show Kd.M (Kd.int .i64) _ _ _ 10 [.int .i64 10] from rfl) (Reps.one (show Kd.M (Kd.int .i64) _ _ _ 40 [.int .i64 40] from rfl) (Reps.one (show Kd.M (Kd.int .i64) _ _ _ 36 [.int .i64 36] from rfl) (Reps.one (show Kd.M (Kd.int .i64) _ _ _ 40 [.int .i64 40] from rfl) (Reps.one (show Kd.M (Kd.int .i64) _ _ _ 24 [.int .i64 24] from rfl) (Reps.one (show Kd.M (Kd.int .i64) _ _ _ 19 [.int .i64 19] from rfl) (Reps.one (show Kd.M (Kd.int .i64) _ _ _ 40 [.int .i64 40] from rfl) (Reps.one (show Kd.M (Kd.int .i64) _ _ _ 20 [.int .i64 20] from rfl) (Reps.one (show Kd.M (Kd.int .i64) _ _ _ 40 [.int .i64 40] from rfl) (Reps.one (show Kd.M (Kd.int .i64) _ _ _ 22 [.int .i64 22] from rfl) (Reps.one (show Kd.M (Kd.int .i64) _ _ _ 40 [.int .i64 40] from rfl) (Reps.one (show Kd.M (Kd.int .i64) _ _ _ 40 [.int .i64 40] from rfl) (Reps.one (show Kd.M (Kd.int .i64) _ _ _ 40 [.int .i64 40] from rfl) (Reps.one (show Kd.M (Kd.int .i64) _ _ _ 40 [.int .i64 40] from rfl) (Reps.one (show Kd.M (Kd.int .i64) _ _ _ 33 [.int .i64 33] from rfl) (Reps.one (show Kd.M (Kd.int .i64) _ _ _ 32 [.int .i64 32] from rfl) (Reps.none _ _)))))))))))))))))))))))))))))))))); intro v314 w25 ho26 hb hg_ hnew_; clear hg_ hnew_; (first | rw [← Ny313.1] at ho26 | (simp only [Int.reduceToNat] at ho26; rw [← Ny313.1] at ho26)); have HO315 := aM (Kd.R_lower ho26 (bwZ (by apply_rules (transparency := .reducible) [HB.1, bwA, bwN, bwD, bwS, GE312.1]))); replace BK312 := aM (bkB (g := gb312) (o := .cells #[.int .i64 0, .int .i64 0, .string (⟨#[]⟩ : ByteArray), .int .u8 0] 36 (0, 0)) (by apply_rules (transparency := .reducible) [BK312.1, bkN, bkD, bkA]) hb); replace HB := aM (bwP (by apply_rules (transparency := .reducible) [HB.1, bwA, bwN, bwD, bwS, GE312.1]) hb); clear hb ho26; obtain ⟨Ao27, co27, eo27⟩ := Kd.R_slice HO315.1; subst eo27; have p320 : 0 ≤ ((ji21) : Int) := of_decide_eq_true (by first | (with_reducible assumption) | assumption); have q320 : (ji21) < (y313.length : Int) := of_decide_eq_true (by first | (with_reducible assumption) | assumption); obtain ⟨ad320, e320, hx320_0⟩ := Kd.at_int (Kd.R_reads' HO315.1).2.2 (ji21) p320 q320; cases e320; replace p320 := eq_true p320; replace q320 := eq_true q320; obtain ⟨z28_0, z28_1, z28_2, z28_3, z28_4, z28_5, z28_6, z28_7⟩ := bx4 BK312.1))
     refine bodyPost_ret (results_cell_row rfl _ _ gb312 36 #[.int .i64 (rd y313 (ji21)), .int .i64 0, .string (⟨#[]⟩ : ByteArray), .int .u8 0] (0, 0) _ rfl (by (with_reducible repeat first | apply bkN | apply bkD | apply bkA); refine put4 (cs := #[.int .i64 0, .int .i64 0, .string (⟨#[]⟩ : ByteArray), .int .u8 0]) ?_ rfl; (with_reducible repeat first | apply bkN | apply bkD | apply bkA); exact BK312.1) Try.underlying36 rfl (by kernel_rfl)) rfl ?_
     exact ⟨by first | rfl | (simp [errW_none, errW_some] <;> rfl) | (simp only [← hji21]; first | rfl | (simp [errW_none, errW_some] <;> rfl)) | (simp [*, errW_none, errW_some] <;> rfl), by apply_rules (transparency := .reducible) [HB.1, bwA, bwN, bwD, bwS, GE312.1]⟩
    rw [if_neg c23] at H
    exact absurd H (by simp)
   rw [if_neg c22] at H
   exact absurd H (by simp)
  rw [if_neg c20] at H
  have c20b0 : decide (a0 ≤ 95) = false := decide_eq_false c20
  clear c20
  simp only [Option.some.injEq, Prod.mk.injEq] at H
  obtain ⟨rfl, rfl, rfl, rfl⟩ := H
  go_enter Try.func53, Try.ntmps53
  go_wp2_with (first | ((with_reducible refine gate_dst (N := 2) rfl ?_); refine box_event ?hg (N := 2) ?hd (cs := #[.int .i64 0, .int .i64 0, .string (⟨#[]⟩ : ByteArray), .int .u8 0]) (t := 36) ?hr ?_; (case hd => rfl); (case hg => rfl); (case hr => first | (go_simp; done) | (go_simp; rfl)); intro gb312 hg w29 hbox hb; have BK312 := aM (hbox); have GW312 := aM ((by rw [hg]; exact (bwZ (by apply_rules (transparency := .reducible) [HB.1, bwA, bwN, bwD])) : w.heap.size ≤ gb312)); have GE312 := aM ((by rw [hg]; exact (bwZ (by apply_rules (transparency := .reducible) [HB.1, bwA, bwN, bwD])) : w.heap.size ≤ gb312)); replace HB := aM (bwP (by apply_rules (transparency := .reducible) [HB.1, bwA, bwN, bwD]) hb); clear hb hbox hg) | ((with_reducible refine gate_dst (N := 4) rfl ?_); refine Kd.R_lit (Kd.int .i64) _ 34 ?hg (N := 4) ?hd (xs := ([29, 8, 4, 40, 14, 9, 5, 37, 15, 1, 2, 18, 38, 3, 11, 40, 10, 40, 36, 40, 24, 19, 40, 20, 40, 22, 40, 40, 40, 40, 33, 32] : List Int)) (inner := [.int .i64 29, .int .i64 8, .int .i64 4, .int .i64 40, .int .i64 14, .int .i64 9, .int .i64 5, .int .i64 37, .int .i64 15, .int .i64 1, .int .i64 2, .int .i64 18, .int .i64 38, .int .i64 3, .int .i64 11, .int .i64 40, .int .i64 10, .int .i64 40, .int .i64 36, .int .i64 40, .int .i64 24, .int .i64 19, .int .i64 40, .int .i64 20, .int .i64 40, .int .i64 22, .int .i64 40, .int .i64 40, .int .i64 40, .int .i64 40, .int .i64 33, .int .i64 32]) (ok := fun _ => True) (okp := fun _ => True) ?hr ?hp (fun _ hk => hk) trivial (Below.refl _ _) (Nat.le_refl _) (by simp) ?_; (case hd => rfl); (case hg => rfl); (case hr => first | (go_simp; done) | (go_simp; rfl)); (case hp => exact (Reps.one (show Kd.M (Kd.int .i64) _ _ _ 29 [.int .i64 29] from rfl) (Reps.one (show Kd.M (Kd.int .i64) _ _ _ 8 [.int .i64 8] from rfl) (Reps.one (show Kd.M (Kd.int .i64) _ _ _ 4 [.int .i64 4] from rfl) (Reps.one (show Kd.M (Kd.int .i64) _ _ _ 40 [.int .i64 40] from rfl) (Reps.one (show Kd.M (Kd.int .i64) _ _ _ 14 [.int .i64 14] from rfl) (Reps.one (show Kd.M (Kd.int .i64) _ _ _ 9 [.int .i64 9] from rfl) (Reps.one (show Kd.M (Kd.int .i64) _ _ _ 5 [.int .i64 5] from rfl) (Reps.one (show Kd.M (Kd.int .i64) _ _ _ 37 [.int .i64 37] from rfl) (Reps.one (show Kd.M (Kd.int .i64) _ _ _ 15 [.int .i64 15] from rfl) (Reps.one (show Kd.M (Kd.int .i64) _ _ _ 1 [.int .i64 1] from rfl) (Reps.one (show Kd.M (Kd.int .i64) _ _ _ 2 [.int .i64 2] from rfl) (Reps.one (show Kd.M (Kd.int .i64) _ _ _ 18 [.int .i64 18] from rfl) (Reps.one (show Kd.M (Kd.int .i64) _ _ _ 38 [.int .i64 38] from rfl) (Reps.one (show Kd.M (Kd.int .i64) _ _ _ 3 [.int .i64 3] from rfl) (Reps.one (show Kd.M (Kd.int .i64) _ _ _ 11 [.int .i64 11] from rfl) (Reps.one (show Kd.M (Kd.int .i64) _ _ _ 40 [.int .i64 40] from rfl) (Reps.one (show Kd.M (Kd.int .i64) _ _ _ 10 [.int .i64 10] from rfl) (Reps.one (show Kd.M (Kd.int .i64) _ _ _ 40 [.int .i64 40] from rfl) (Reps.one (show Kd.M (Kd.int .i64) _ _ _ 36 [.int .i64 36] from rfl) (Reps.one (show Kd.M (Kd.int .i64) _ _ _ 40 [.int .i64 40] from rfl) (Reps.one (show Kd.M (Kd.int .i64) _ _ _ 24 [.int .i64 24] from rfl) (Reps.one (show Kd.M (Kd.int .i64) _ _ _ 19 [.int .i64 19] from rfl) (Reps.one (show Kd.M (Kd.int .i64) _ _ _ 40 [.int .i64 40] from rfl) (Reps.one (show Kd.M (Kd.int .i64) _ _ _ 20 [.int .i64 20] from rfl) (Reps.one (show Kd.M (Kd.int .i64) _ _ _ 40 [.int .i64 40] from rfl) (Reps.one (show Kd.M (Kd.int .i64) _ _ _ 22 [.int .i64 22] from rfl) (Reps.one (show Kd.M (Kd.int .i64) _ _ _ 40 [.int .i64 40] from rfl) (Reps.one (show Kd.M (Kd.int .i64) _ _ _ 40 [.int .i64 40] from rfl) (Reps.one (show Kd.M (Kd.int .i64) _ _ _ 40 [.int .i64 40] from rfl) (Reps.one (show Kd.M (Kd.int .i64) _ _ _ 40 [.int .i64 40] from rfl) (Reps.one (show Kd.M (Kd.int .i64) _ _ _ 33 [.int .i64 33] from rfl) (Reps.one (show Kd.M (Kd.int .i64) _ _ _ 32 [.int .i64 32] from rfl) (Reps.none _ _)))))))))))))))))))))))))))))))))); intro v314 w30 ho31 hb hg_ hnew_; clear hg_ hnew_; (first | rw [← Ny313.1] at ho31 | (simp only [Int.reduceToNat] at ho31; rw [← Ny313.1] at ho31)); have HO315 := aM (Kd.R_lower ho31 (bwZ (by apply_rules (transparency := .reducible) [HB.1, bwA, bwN, bwD, bwS, GE312.1]))); replace BK312 := aM (bkB (g := gb312) (o := .cells #[.int .i64 0, .int .i64 0, .string (⟨#[]⟩ : ByteArray), .int .u8 0] 36 (0, 0)) (by apply_rules (transparency := .reducible) [BK312.1, bkN, bkD, bkA]) hb); replace HB := aM (bwP (by apply_rules (transparency := .reducible) [HB.1, bwA, bwN, bwD, bwS, GE312.1]) hb); clear hb ho31; obtain ⟨z32_0, z32_1, z32_2, z32_3, z32_4, z32_5, z32_6, z32_7⟩ := bx4 BK312.1))
  refine bodyPost_ret (results_cell_row rfl _ _ gb312 36 #[.int .i64 40, .int .i64 0, .string (⟨#[]⟩ : ByteArray), .int .u8 0] (0, 0) _ rfl (by (with_reducible repeat first | apply bkN | apply bkD | apply bkA); refine put4 (cs := #[.int .i64 0, .int .i64 0, .string (⟨#[]⟩ : ByteArray), .int .u8 0]) ?_ rfl; (with_reducible repeat first | apply bkN | apply bkD | apply bkA); exact BK312.1) Try.underlying36 rfl (by kernel_rfl)) rfl ?_
  exact ⟨rfl, by apply_rules (transparency := .reducible) [HB.1, bwA, bwN, bwD, bwS, GE312.1]⟩
 rw [if_neg c19] at H
 have c19b0 : decide (64 < a0) = false := decide_eq_false c19
 clear c19
 simp only [Option.some.injEq, Prod.mk.injEq] at H
 obtain ⟨rfl, rfl, rfl, rfl⟩ := H
 go_enter Try.func53, Try.ntmps53
 go_wp2_with (first | ((with_reducible refine gate_dst (N := 2) rfl ?_); refine box_event ?hg (N := 2) ?hd (cs := #[.int .i64 0, .int .i64 0, .string (⟨#[]⟩ : ByteArray), .int .u8 0]) (t := 36) ?hr ?_; (case hd => rfl); (case hg => rfl); (case hr => first | (go_simp; done) | (go_simp; rfl)); intro gb312 hg w33 hbox hb; have BK312 := aM (hbox); have GW312 := aM ((by rw [hg]; exact (bwZ (by apply_rules (transparency := .reducible) [HB.1, bwA, bwN, bwD])) : w.heap.size ≤ gb312)); have GE312 := aM ((by rw [hg]; exact (bwZ (by apply_rules (transparency := .reducible) [HB.1, bwA, bwN, bwD])) : w.heap.size ≤ gb312)); replace HB := aM (bwP (by apply_rules (transparency := .reducible) [HB.1, bwA, bwN, bwD]) hb); clear hb hbox hg) | ((with_reducible refine gate_dst (N := 4) rfl ?_); refine Kd.R_lit (Kd.int .i64) _ 34 ?hg (N := 4) ?hd (xs := ([29, 8, 4, 40, 14, 9, 5, 37, 15, 1, 2, 18, 38, 3, 11, 40, 10, 40, 36, 40, 24, 19, 40, 20, 40, 22, 40, 40, 40, 40, 33, 32] : List Int)) (inner := [.int .i64 29, .int .i64 8, .int .i64 4, .int .i64 40, .int .i64 14, .int .i64 9, .int .i64 5, .int .i64 37, .int .i64 15, .int .i64 1, .int .i64 2, .int .i64 18, .int .i64 38, .int .i64 3, .int .i64 11, .int .i64 40, .int .i64 10, .int .i64 40, .int .i64 36, .int .i64 40, .int .i64 24, .int .i64 19, .int .i64 40, .int .i64 20, .int .i64 40, .int .i64 22, .int .i64 40, .int .i64 40, .int .i64 40, .int .i64 40, .int .i64 33, .int .i64 32]) (ok := fun _ => True) (okp := fun _ => True) ?hr ?hp (fun _ hk => hk) trivial (Below.refl _ _) (Nat.le_refl _) (by simp) ?_; (case hd => rfl); (case hg => rfl); (case hr => first | (go_simp; done) | (go_simp; rfl)); (case hp => exact (Reps.one (show Kd.M (Kd.int .i64) _ _ _ 29 [.int .i64 29] from rfl) (Reps.one (show Kd.M (Kd.int .i64) _ _ _ 8 [.int .i64 8] from rfl) (Reps.one (show Kd.M (Kd.int .i64) _ _ _ 4 [.int .i64 4] from rfl) (Reps.one (show Kd.M (Kd.int .i64) _ _ _ 40 [.int .i64 40] from rfl) (Reps.one (show Kd.M (Kd.int .i64) _ _ _ 14 [.int .i64 14] from rfl) (Reps.one (show Kd.M (Kd.int .i64) _ _ _ 9 [.int .i64 9] from rfl) (Reps.one (show Kd.M (Kd.int .i64) _ _ _ 5 [.int .i64 5] from rfl) (Reps.one (show Kd.M (Kd.int .i64) _ _ _ 37 [.int .i64 37] from rfl) (Reps.one (show Kd.M (Kd.int .i64) _ _ _ 15 [.int .i64 15] from rfl) (Reps.one (show Kd.M (Kd.int .i64) _ _ _ 1 [.int .i64 1] from rfl) (Reps.one (show Kd.M (Kd.int .i64) _ _ _ 2 [.int .i64 2] from rfl) (Reps.one (show Kd.M (Kd.int .i64) _ _ _ 18 [.int .i64 18] from rfl) (Reps.one (show Kd.M (Kd.int .i64) _ _ _ 38 [.int .i64 38] from rfl) (Reps.one (show Kd.M (Kd.int .i64) _ _ _ 3 [.int .i64 3] from rfl) (Reps.one (show Kd.M (Kd.int .i64) _ _ _ 11 [.int .i64 11] from rfl) (Reps.one (show Kd.M (Kd.int .i64) _ _ _ 40 [.int .i64 40] from rfl) (Reps.one (show Kd.M (Kd.int .i64) _ _ _ 10 [.int .i64 10] from rfl) (Reps.one (show Kd.M (Kd.int .i64) _ _ _ 40 [.int .i64 40] from rfl) (Reps.one (show Kd.M (Kd.int .i64) _ _ _ 36 [.int .i64 36] from rfl) (Reps.one (show Kd.M (Kd.int .i64) _ _ _ 40 [.int .i64 40] from rfl) (Reps.one (show Kd.M (Kd.int .i64) _ _ _ 24 [.int .i64 24] from rfl) (Reps.one (show Kd.M (Kd.int .i64) _ _ _ 19 [.int .i64 19] from rfl) (Reps.one (show Kd.M (Kd.int .i64) _ _ _ 40 [.int .i64 40] from rfl) (Reps.one (show Kd.M (Kd.int .i64) _ _ _ 20 [.int .i64 20] from rfl) (Reps.one (show Kd.M (Kd.int .i64) _ _ _ 40 [.int .i64 40] from rfl) (Reps.one (show Kd.M (Kd.int .i64) _ _ _ 22 [.int .i64 22] from rfl) (Reps.one (show Kd.M (Kd.int .i64) _ _ _ 40 [.int .i64 40] from rfl) (Reps.one (show Kd.M (Kd.int .i64) _ _ _ 40 [.int .i64 40] from rfl) (Reps.one (show Kd.M (Kd.int .i64) _ _ _ 40 [.int .i64 40] from rfl) (Reps.one (show Kd.M (Kd.int .i64) _ _ _ 40 [.int .i64 40] from rfl) (Reps.one (show Kd.M (Kd.int .i64) _ _ _ 33 [.int .i64 33] from rfl) (Reps.one (show Kd.M (Kd.int .i64) _ _ _ 32 [.int .i64 32] from rfl) (Reps.none _ _)))))))))))))))))))))))))))))))))); intro v314 w34 ho35 hb hg_ hnew_; clear hg_ hnew_; (first | rw [← Ny313.1] at ho35 | (simp only [Int.reduceToNat] at ho35; rw [← Ny313.1] at ho35)); have HO315 := aM (Kd.R_lower ho35 (bwZ (by apply_rules (transparency := .reducible) [HB.1, bwA, bwN, bwD, bwS, GE312.1]))); replace BK312 := aM (bkB (g := gb312) (o := .cells #[.int .i64 0, .int .i64 0, .string (⟨#[]⟩ : ByteArray), .int .u8 0] 36 (0, 0)) (by apply_rules (transparency := .reducible) [BK312.1, bkN, bkD, bkA]) hb); replace HB := aM (bwP (by apply_rules (transparency := .reducible) [HB.1, bwA, bwN, bwD, bwS, GE312.1]) hb); clear hb ho35; obtain ⟨z36_0, z36_1, z36_2, z36_3, z36_4, z36_5, z36_6, z36_7⟩ := bx4 BK312.1))
 refine bodyPost_ret (results_cell_row rfl _ _ gb312 36 #[.int .i64 40, .int .i64 0, .string (⟨#[]⟩ : ByteArray), .int .u8 0] (0, 0) _ rfl (by (with_reducible repeat first | apply bkN | apply bkD | apply bkA); refine put4 (cs := #[.int .i64 0, .int .i64 0, .string (⟨#[]⟩ : ByteArray), .int .u8 0]) ?_ rfl; (with_reducible repeat first | apply bkN | apply bkD | apply bkA); exact BK312.1) Try.underlying36 rfl (by kernel_rfl)) rfl ?_
 exact ⟨rfl, by apply_rules (transparency := .reducible) [HB.1, bwA, bwN, bwD, bwS, GE312.1]⟩

end Go.Proofs.Ytgkaiagoogjibaa.PBind
