-- written by pp.py of this session's wip: the kit's print, turned in a few places, over this claim's program
import Derived.Test.YtgkaiagoogjibaaPBindx0
import Derived.Test.YtgkaiagoogjibaaPBindx2
import Derived.Test.YtgkaiagoogjibaaPBindx9
import Derived.Test.YtgkaiagoogjibaaPBindx10
import Derived.Test.YtgkaiagoogjibaaPBindx16
namespace Go.Proofs.Ytgkaiagoogjibaa.PBind
open Go.RowKit Go.Proofs.YtgkaiagoogjibaaW.PrintWords Go.Proofs.YtgkaiagoogjibaaW.PrintLast Go.Proofs.YtgkaiagoogjibaaW.PrintMore
open Go.Proofs.YtgkaiagoogjibaaW.PrintWords renaming blk_drewN → bkN, blk_drew → bkD, blk_alloc → bkA, below_alloc → bwA, pw_below_drewN → bwN, below_drew1 → bwD, below_size → bwZ, below_step → bwP, blk_below → bkB, blk_cell → bkC, blk_frozen → bkF, keep_drewN → kpN, keep_drew → kpD, keep_alloc → kpA
open Go.Proofs.YtgkaiagoogjibaaW.PrintWords.Aside0 renaming mk → aM
attribute [local go_sem] max2_int min2_int max_two min_two max_three min_three max_four min_four   -- for this text's walks alone
set_option linter.unusedVariables false
set_option linter.unusedSimpArgs false

/-! ### bind_Single: function 19 -/
def bind_Single.f (k : Nat) (a0_0 : Int) (a0_1 : Int) (a0_2 : Bool) (a0_3 : Bool) (a0_4 : Bool) (a0_5 : ByteArray) : Option (Int × Int × ByteArray × Int × Bool) := (bind_New.f).bind fun bt470 => ((bind_Binder_Key.f k bt470.1 bt470.2.1 bt470.2.2 a0_0 a0_1 a0_2 a0_3 a0_4 a0_5).bind fun bt474 => (some (bt474.1, bt474.2.1, bt474.2.2.1, bt474.2.2.2.1, bt474.2.2.2.2.1)))
theorem bind_Single.mono : ∀ a0 a1 a2 a3 a4 a5 k, LeO (bind_Single.f k a0 a1 a2 a3 a4 a5) (bind_Single.f (k + 1) a0 a1 a2 a3 a4 a5) := by
 intro a0 a1 a2 a3 a4 a5 k
 unfold bind_Single.f
 repeat' first
   | (with_reducible exact bind_Binder_Key.mono _ _ _ _ _ _ _ _ _ _)
   | (with_reducible exact LeO.refl _)
   | (with_reducible exact LeO.none _)
   | (with_reducible refine LeO.ite ?_ ?_)
   | (with_reducible refine LeO.bind ?_ (fun _ => ?_))
   | exact bind_Binder_Key.mono _ _ _ _ _ _ _ _ _ _
   | exact LeO.none _
   | refine LeO.ite ?_ ?_
   | refine LeO.bind ?_ (fun _ => ?_)
set_option maxHeartbeats 8000000 in
set_option maxRecDepth 100000 in
theorem bind_Single.calls (k : Nat) (a0_0 : Int) (a0_1 : Int) (a0_2 : Bool) (a0_3 : Bool) (a0_4 : Bool) (a0_5 : ByteArray) (r1 : Int) (r2 : Int) (r3 : ByteArray) (r4 : Int) (r5 : Bool) (w : World) (h : bind_Single.f k a0_0 a0_1 a0_2 a0_3 a0_4 a0_5 = some (r1, r2, r3, r4, r5)) :
    Calls Try.prog 19 #[.agg #[.int .i64 a0_0, .int .i32 a0_1, .bool a0_2, .bool a0_3, .bool a0_4, .string a0_5]] w fun e w' => e = .returned (.tuple #[.agg #[.int .i64 r1, .int .i64 r2, .string r3, .int .u8 r4], .bool r5]) ∧ Below w.heap.size w w' := by
 have hu25 := Try.underlying25
 have hu36 := Try.underlying36
 have HB := aM (Below.refl w.heap.size w)
 have H : ((bind_New.f).bind fun bt470 => ((bind_Binder_Key.f k bt470.1 bt470.2.1 bt470.2.2 a0_0 a0_1 a0_2 a0_3 a0_4 a0_5).bind fun bt474 => (some (bt474.1, bt474.2.1, bt474.2.2.1, bt474.2.2.2.1, bt474.2.2.2.2.1)))) = some (r1, r2, r3, r4, r5) := h
 clear h
 replace H := Option.bind_eq_some_iff.mp H
 obtain ⟨⟨t470, t471, t472⟩, A20, H⟩ := H
 replace H : ((bind_Binder_Key.f k t470 t471 t472 a0_0 a0_1 a0_2 a0_3 a0_4 a0_5).bind fun bt474 => (some (bt474.1, bt474.2.1, bt474.2.2.1, bt474.2.2.2.1, bt474.2.2.2.2.1))) = some (r1, r2, r3, r4, r5) := H
 have A2 := aM A20
 clear A20
 replace H := Option.bind_eq_some_iff.mp H
 obtain ⟨⟨t474, t475, t476, t477, t478, t479, t480, t481⟩, A30, H⟩ := H
 replace H : (some (t474, t475, t476, t477, t478)) = some (r1, r2, r3, r4, r5) := H
 have A3 := aM A30
 clear A30
 simp only [Option.some.injEq, Prod.mk.injEq] at H
 obtain ⟨rfl, rfl, rfl, rfl, rfl⟩ := H
 go_enter Try.func19, Try.ntmps19
 try go_wp2_with (first | ((with_reducible refine gate_dst (N := 1) rfl ?_); refine box_event ?hg (N := 1) ?hd (cs := #[.int .i64 a0_0, .int .i32 a0_1, .bool a0_2, .bool a0_3, .bool a0_4, .string a0_5]) (t := 25) ?hr ?_; (case hd => rfl); (case hg => rfl); (case hr => first | (go_simp; done) | (go_simp; rfl)); intro gb468 hg w4 hbox hb; have BK468 := aM (hbox); have GW468 := aM ((by rw [hg]; exact (bwZ (by apply_rules (transparency := .reducible) [HB.1, bwA, bwN, bwD])) : w.heap.size ≤ gb468)); have GE468 := aM ((by rw [hg]; exact (bwZ (by apply_rules (transparency := .reducible) [HB.1, bwA, bwN, bwD])) : w.heap.size ≤ gb468)); replace HB := aM (bwP (by apply_rules (transparency := .reducible) [HB.1, bwA, bwN, bwD]) hb); clear hb hbox hg) | ((with_reducible refine gate_dst (N := 2) rfl ?_); refine box_event ?hg (N := 2) ?hd (cs := #[.int .i64 0, .int .i64 0, .string (⟨#[]⟩ : ByteArray), .int .u8 0]) (t := 36) ?hr ?_; (case hd => rfl); (case hg => rfl); (case hr => first | (go_simp; done) | (go_simp; rfl)); intro gb469 hg w5 hbox hb; have BK469 := aM (hbox); have GW469 := aM ((by rw [hg]; exact (bwZ (by apply_rules (transparency := .reducible) [HB.1, bwA, bwN, bwD, bwS, GE468.1])) : w.heap.size ≤ gb469)); have GE469 := aM ((by rw [hg]; exact (bwZ (by apply_rules (transparency := .reducible) [HB.1, bwA, bwN, bwD, bwS, GE468.1])) : w.heap.size ≤ gb469)); replace HB := aM (bwP (by apply_rules (transparency := .reducible) [HB.1, bwA, bwN, bwD, bwS, GE468.1]) hb); have NB468_469 := aM ((by rw [hg]; exact Nat.ne_of_lt (blk_lt (g := gb468) (o := .cells #[.int .i64 a0_0, .int .i32 a0_1, .bool a0_2, .bool a0_3, .bool a0_4, .string a0_5] 25 (0, 0)) (by apply_rules (transparency := .reducible) [BK468.1, bkN, bkD, bkA])) : gb468 ≠ gb469)); have NB469_468 := aM ((by rw [hg]; exact Nat.ne_of_gt (blk_lt (g := gb468) (o := .cells #[.int .i64 a0_0, .int .i32 a0_1, .bool a0_2, .bool a0_3, .bool a0_4, .string a0_5] 25 (0, 0)) (by apply_rules (transparency := .reducible) [BK468.1, bkN, bkD, bkA])) : gb469 ≠ gb468)); replace BK468 := aM (bkB (g := gb468) (o := .cells #[.int .i64 a0_0, .int .i32 a0_1, .bool a0_2, .bool a0_3, .bool a0_4, .string a0_5] 25 (0, 0)) (by apply_rules (transparency := .reducible) [BK468.1, bkN, bkD, bkA]) hb); clear hb hbox hg))
 replace BK468 := aM (bkD BK468.1)
 replace BK469 := aM (bkD BK469.1)
 replace HB := aM (bwD HB.1)
 refine start_ (n := 7) (S := fun w' => w'.cell? ⟨gb468, 0, none⟩ = some (.int .i64 a0_0) ∧ w'.cell? ⟨gb468, 1, none⟩ = some (.int .i32 a0_1) ∧ w'.cell? ⟨gb468, 2, none⟩ = some (.bool a0_2) ∧ w'.cell? ⟨gb468, 3, none⟩ = some (.bool a0_3) ∧ w'.cell? ⟨gb468, 4, none⟩ = some (.bool a0_4) ∧ w'.cell? ⟨gb468, 5, none⟩ = some (.string a0_5)) (ds := []) #[false, false, false, false, false, false, false] (by kernel_rfl) rfl rfl ⟨(bkC BK468.1 0).trans rfl, (bkC BK468.1 1).trans rfl, (bkC BK468.1 2).trans rfl, (bkC BK468.1 3).trans rfl, (bkC BK468.1 4).trans rfl, (bkC BK468.1 5).trans rfl⟩ (fun hHeld => ?_)
 generalize w5.drew = w6 at BK468 BK469 HB hHeld ⊢
 refine take_ (i := 1) (N := some 5) (v := ?_) (a' := ?_) #[false, true, false, false, false, false, false] rfl rfl (by kernel_rfl) (fun _ _ _ h => h) (Or.inl ⟨by rfl, ?_⟩) hHeld ?_ ?_
 rotate_left
 ·rintro w' ⟨s0, s1, s2, s3, s4, s5⟩
  go_simp
  with_reducible rfl
 rotate_left
 ·simp only [Act.put, List.setIfInBounds_toArray, List.set_cons_zero, List.set_cons_succ, i64_w, i32_w]
  rfl
 refine one_ (i := 0) (N := some 4) #[true, true, false, false, false, false, false] rfl rfl (by kernel_rfl) (by decide) (fun K hK => ?_)
 refine goes_ Try.func21 (by kernel_rfl) rfl #[] (by rfl) rfl rfl (by (try simp only [List.map_toArray, List.map_cons, List.map_nil]); first | done | rfl) ?_
 with_reducible refine (bind_New.calls  t470 t471 t472 w _ ?side1 A2.1).mono ?_
 (case side1 => apply_rules (transparency := .reducible) [HB.1, bwA, bwN, bwD, bwS, GE468.1, GE469.1])
 rintro e w7 ⟨g473, rfl, hi, hb, hb2⟩
 refine ⟨_, rfl, ?_⟩
 replace HB := aM (hb)
 have HI473 := aM (hi)
 have NB473_468 := aM (IsS53.ne_blk hi (bkB (g := gb468) (o := .cells #[.int .i64 a0_0, .int .i32 a0_1, .bool a0_2, .bool a0_3, .bool a0_4, .string a0_5] 25 (0, 0)) (by apply_rules (transparency := .reducible) [BK468.1, bkN, bkD, bkA]) hb2) (by decide))
 have NB468_473 := aM (Ne.symm (IsS53.ne_blk hi (bkB (g := gb468) (o := .cells #[.int .i64 a0_0, .int .i32 a0_1, .bool a0_2, .bool a0_3, .bool a0_4, .string a0_5] 25 (0, 0)) (by apply_rules (transparency := .reducible) [BK468.1, bkN, bkD, bkA]) hb2) (by decide)))
 replace BK468 := aM (bkB (g := gb468) (o := .cells #[.int .i64 a0_0, .int .i32 a0_1, .bool a0_2, .bool a0_3, .bool a0_4, .string a0_5] 25 (0, 0)) (by apply_rules (transparency := .reducible) [BK468.1, bkN, bkD, bkA]) hb2)
 have NB473_469 := aM (IsS53.ne_blk hi (bkB (g := gb469) (o := .cells #[.int .i64 0, .int .i64 0, .string (⟨#[]⟩ : ByteArray), .int .u8 0] 36 (0, 0)) (by apply_rules (transparency := .reducible) [BK469.1, bkN, bkD, bkA]) hb2) (by decide))
 have NB469_473 := aM (Ne.symm (IsS53.ne_blk hi (bkB (g := gb469) (o := .cells #[.int .i64 0, .int .i64 0, .string (⟨#[]⟩ : ByteArray), .int .u8 0] 36 (0, 0)) (by apply_rules (transparency := .reducible) [BK469.1, bkN, bkD, bkA]) hb2) (by decide)))
 replace BK469 := aM (bkB (g := gb469) (o := .cells #[.int .i64 0, .int .i64 0, .string (⟨#[]⟩ : ByteArray), .int .u8 0] 36 (0, 0)) (by apply_rules (transparency := .reducible) [BK469.1, bkN, bkD, bkA]) hb2)
 (try clear hb)
 (try clear hb2)
 (try clear hi)
 refine hK.out _ _ ⟨(bkC BK468.1 0).trans rfl, (bkC BK468.1 1).trans rfl, (bkC BK468.1 2).trans rfl, (bkC BK468.1 3).trans rfl, (bkC BK468.1 4).trans rfl, (bkC BK468.1 5).trans rfl⟩ (fun hHeld => ?_)
 clear hK K
 refine norm_ (a' := ?_) ?_ ?_
 rotate_left
 ·show Act.put _ (some 4) _ = _
  simp only [Act.put, List.setIfInBounds_toArray, List.set_cons_zero, List.set_cons_succ, i64_w, i32_w]
  rfl
 refine one_ (i := 2) (N := some 6) #[true, true, true, false, false, false, false] rfl rfl (by kernel_rfl) (by decide) (fun K hK => ?_)
 refine goes_ Try.func23 (by kernel_rfl) rfl #[.pointer (some ⟨g473, 0, none⟩), .agg #[.int .i64 a0_0, .int .i32 a0_1, .bool a0_2, .bool a0_3, .bool a0_4, .string a0_5]] (by rfl) rfl rfl (by (try simp only [List.map_toArray, List.map_cons, List.map_nil]); first | done | rfl) ?_
 with_reducible refine (bind_Binder_Key.calls k g473 t470 t471 t472 a0_0 a0_1 a0_2 a0_3 a0_4 a0_5 t474 t475 t476 t477 t478 t479 t480 t481 w _ ?side1 ?side2 A3.1).mono ?_
 (case side1 => repeat (first | (with_reducible first | exact HI473.1 | apply IsS53.alloc | apply IsS53.drewN | apply IsS53.drew | apply IsS53.set_0 | apply IsS53.set_1 | apply IsS53.set_2 | refine IsS53.far ?_ NB473_468.1 _ | refine IsS53.far ?_ NB473_469.1 _) | exact HI473.1))
 (case side2 => apply_rules (transparency := .reducible) [HB.1, bwA, bwN, bwD, bwS, (IsS53.ge HI473.1), GE468.1, GE469.1])
 rintro e w8 ⟨rfl, hi, hb, hk⟩
 refine ⟨_, rfl, ?_⟩
 replace BK468 := aM (KeepBut.blk hk (g' := gb468) (o := .cells #[.int .i64 a0_0, .int .i32 a0_1, .bool a0_2, .bool a0_3, .bool a0_4, .string a0_5] 25 (0, 0)) (by apply_rules (transparency := .reducible) [BK468.1, bkN, bkD, bkA]) NB468_473.1 (by simp))
 replace BK469 := aM (KeepBut.blk hk (g' := gb469) (o := .cells #[.int .i64 0, .int .i64 0, .string (⟨#[]⟩ : ByteArray), .int .u8 0] 36 (0, 0)) (by apply_rules (transparency := .reducible) [BK469.1, bkN, bkD, bkA]) NB469_473.1 (by simp))
 replace HB := aM (hb)
 replace HI473 := aM (hi)
 (try clear hb)
 (try clear hb2)
 (try clear hk)
 (try clear hi)
 refine hK.out _ _ ⟨(bkC BK468.1 0).trans rfl, (bkC BK468.1 1).trans rfl, (bkC BK468.1 2).trans rfl, (bkC BK468.1 3).trans rfl, (bkC BK468.1 4).trans rfl, (bkC BK468.1 5).trans rfl⟩ (fun hHeld => ?_)
 clear hK K
 refine norm_ (a' := ?_) ?_ ?_
 rotate_left
 ·show Act.put _ (some 6) _ = _
  simp only [Act.put, List.setIfInBounds_toArray, List.set_cons_zero, List.set_cons_succ, i64_w, i32_w]
  rfl
 refine pure_ (i := 3) (N := some 7) (v := ?_) (a' := ?_) #[true, true, true, true, false, false, false] rfl rfl (by kernel_rfl) (fun _ _ _ h => h) (Or.inl ⟨by rfl, ?_⟩) ?_ ?_
 rotate_left
 ·intro w'
  go_simp
  with_reducible rfl
 rotate_left
 ·simp only [Act.put, List.setIfInBounds_toArray, List.set_cons_zero, List.set_cons_succ, i64_w, i32_w]
  rfl
 refine pure_ (i := 4) (N := some 8) (v := ?_) (a' := ?_) #[true, true, true, true, true, false, false] rfl rfl (by kernel_rfl) (fun _ _ _ h => h) (Or.inl ⟨by rfl, ?_⟩) ?_ ?_
 rotate_left
 ·intro w'
  go_simp
  with_reducible rfl
 rotate_left
 ·simp only [Act.put, List.setIfInBounds_toArray, List.set_cons_zero, List.set_cons_succ, i64_w, i32_w]
  rfl
 refine one_ (i := 5) (N := none) #[true, true, true, true, true, true, false] rfl rfl (by kernel_rfl) (by decide) (fun K hK => ?_)
 have hs9 : w8.cell? ⟨gb469, 0, none⟩ = some (.int .i64 0) := (bkC BK469.1 0).trans rfl
 have hfs9 := bkF BK469.1 0
 have hns9_0 := NB468_469.1
 have hms9_0 := NB469_468.1
 have hs10 : w8.cell? ⟨gb469, 1, none⟩ = some (.int .i64 0) := (bkC BK469.1 1).trans rfl
 have hfs10 := bkF BK469.1 1
 have hns10_0 := NB468_469.1
 have hms10_0 := NB469_468.1
 have hs11 : w8.cell? ⟨gb469, 2, none⟩ = some (.string (⟨#[]⟩ : ByteArray)) := (bkC BK469.1 2).trans rfl
 have hfs11 := bkF BK469.1 2
 have hns11_0 := NB468_469.1
 have hms11_0 := NB469_468.1
 have hs12 : w8.cell? ⟨gb469, 3, none⟩ = some (.int .u8 0) := (bkC BK469.1 3).trans rfl
 have hfs12 := bkF BK469.1 3
 have hns12_0 := NB468_469.1
 have hms12_0 := NB469_468.1
 refine skip_ (w1 := ?_) (by rfl) rfl ?_ ?_
 rotate_left
 ·go_simp
  rfl
 refine hK.out _ _ ⟨((cell_far (p := ⟨gb469, _, none⟩) NB468_469.1 _).trans (((cell_far (p := ⟨gb469, _, none⟩) NB468_469.1 _).trans (((cell_far (p := ⟨gb469, _, none⟩) NB468_469.1 _).trans (((cell_far (p := ⟨gb469, _, none⟩) NB468_469.1 _).trans (hHeld.1)))))))), ((cell_far (p := ⟨gb469, _, none⟩) NB468_469.1 _).trans (((cell_far (p := ⟨gb469, _, none⟩) NB468_469.1 _).trans (((cell_far (p := ⟨gb469, _, none⟩) NB468_469.1 _).trans (((cell_far (p := ⟨gb469, _, none⟩) NB468_469.1 _).trans (hHeld.2.1)))))))), ((cell_far (p := ⟨gb469, _, none⟩) NB468_469.1 _).trans (((cell_far (p := ⟨gb469, _, none⟩) NB468_469.1 _).trans (((cell_far (p := ⟨gb469, _, none⟩) NB468_469.1 _).trans (((cell_far (p := ⟨gb469, _, none⟩) NB468_469.1 _).trans (hHeld.2.2.1)))))))), ((cell_far (p := ⟨gb469, _, none⟩) NB468_469.1 _).trans (((cell_far (p := ⟨gb469, _, none⟩) NB468_469.1 _).trans (((cell_far (p := ⟨gb469, _, none⟩) NB468_469.1 _).trans (((cell_far (p := ⟨gb469, _, none⟩) NB468_469.1 _).trans (hHeld.2.2.2.1)))))))), ((cell_far (p := ⟨gb469, _, none⟩) NB468_469.1 _).trans (((cell_far (p := ⟨gb469, _, none⟩) NB468_469.1 _).trans (((cell_far (p := ⟨gb469, _, none⟩) NB468_469.1 _).trans (((cell_far (p := ⟨gb469, _, none⟩) NB468_469.1 _).trans (hHeld.2.2.2.2.1)))))))), ((cell_far (p := ⟨gb469, _, none⟩) NB468_469.1 _).trans (((cell_far (p := ⟨gb469, _, none⟩) NB468_469.1 _).trans (((cell_far (p := ⟨gb469, _, none⟩) NB468_469.1 _).trans (((cell_far (p := ⟨gb469, _, none⟩) NB468_469.1 _).trans (hHeld.2.2.2.2.2))))))))⟩ (fun hHeld => ?_)
 clear hK K
 refine pure_ (i := 6) (N := some 3) (v := ?_) (a' := ?_) #[true, true, true, true, true, true, true] rfl rfl (by kernel_rfl) (fun _ _ _ h => h) (Or.inl ⟨by rfl, ?_⟩) ?_ ?_
 rotate_left
 ·intro w'
  go_simp
  with_reducible rfl
 rotate_left
 ·simp only [Act.put, List.setIfInBounds_toArray, List.set_cons_zero, List.set_cons_succ, i64_w, i32_w]
  rfl
 refine done_ (by kernel_rfl) ?_
 try go_wp2
 refine bodyPost_ret (results_ct rfl _ _ gb469 36 #[.int .i64 t474, .int .i64 t475, .string t476, .int .u8 t477] (0, 0) _ rfl (by (with_reducible repeat first | apply bkN | apply bkD | apply bkA); refine put4 (cs := #[.int .i64 0, .int .i64 0, .string (⟨#[]⟩ : ByteArray), .int .u8 0]) ?_ rfl; (with_reducible repeat first | apply bkN | apply bkD | apply bkA); exact BK469.1) Try.underlying36 rfl (by kernel_rfl)) rfl ?_
 exact ⟨rfl, by apply_rules (transparency := .reducible) [HB.1, bwA, bwN, bwD, bwS, (IsS53.ge HI473.1), GE468.1, GE469.1]⟩

/-! ### bodkinref19_Single: function 20 -/
def bodkinref19_Single.f (k : Nat) (a0_0 : Int) (a0_1 : Int) (a0_2 : Bool) (a0_3 : Bool) (a0_4 : Bool) (a0_5 : ByteArray) : Option (Int × Int × ByteArray × Int × Bool) := (bodkinref19_New.f).bind fun bt484 => ((bodkinref19_Binder_Key.f k bt484.1 bt484.2.1 bt484.2.2 a0_0 a0_1 a0_2 a0_3 a0_4 a0_5).bind fun bt488 => (some (bt488.1, bt488.2.1, bt488.2.2.1, bt488.2.2.2.1, bt488.2.2.2.2.1)))
theorem bodkinref19_Single.mono : ∀ a0 a1 a2 a3 a4 a5 k, LeO (bodkinref19_Single.f k a0 a1 a2 a3 a4 a5) (bodkinref19_Single.f (k + 1) a0 a1 a2 a3 a4 a5) := by
 intro a0 a1 a2 a3 a4 a5 k
 unfold bodkinref19_Single.f
 repeat' first
   | (with_reducible exact bodkinref19_Binder_Key.mono _ _ _ _ _ _ _ _ _ _)
   | (with_reducible exact LeO.refl _)
   | (with_reducible exact LeO.none _)
   | (with_reducible refine LeO.ite ?_ ?_)
   | (with_reducible refine LeO.bind ?_ (fun _ => ?_))
   | exact bodkinref19_Binder_Key.mono _ _ _ _ _ _ _ _ _ _
   | exact LeO.none _
   | refine LeO.ite ?_ ?_
   | refine LeO.bind ?_ (fun _ => ?_)
set_option maxHeartbeats 8000000 in
set_option maxRecDepth 100000 in
theorem bodkinref19_Single.calls (k : Nat) (a0_0 : Int) (a0_1 : Int) (a0_2 : Bool) (a0_3 : Bool) (a0_4 : Bool) (a0_5 : ByteArray) (r1 : Int) (r2 : Int) (r3 : ByteArray) (r4 : Int) (r5 : Bool) (w : World) (h : bodkinref19_Single.f k a0_0 a0_1 a0_2 a0_3 a0_4 a0_5 = some (r1, r2, r3, r4, r5)) :
    Calls Try.prog 20 #[.agg #[.int .i64 a0_0, .int .i32 a0_1, .bool a0_2, .bool a0_3, .bool a0_4, .string a0_5]] w fun e w' => e = .returned (.tuple #[.agg #[.int .i64 r1, .int .i64 r2, .string r3, .int .u8 r4], .bool r5]) ∧ Below w.heap.size w w' := by
 have hu25 := Try.underlying25
 have hu36 := Try.underlying36
 have HB := aM (Below.refl w.heap.size w)
 have H : ((bodkinref19_New.f).bind fun bt484 => ((bodkinref19_Binder_Key.f k bt484.1 bt484.2.1 bt484.2.2 a0_0 a0_1 a0_2 a0_3 a0_4 a0_5).bind fun bt488 => (some (bt488.1, bt488.2.1, bt488.2.2.1, bt488.2.2.2.1, bt488.2.2.2.2.1)))) = some (r1, r2, r3, r4, r5) := h
 clear h
 replace H := Option.bind_eq_some_iff.mp H
 obtain ⟨⟨t484, t485, t486⟩, A20, H⟩ := H
 replace H : ((bodkinref19_Binder_Key.f k t484 t485 t486 a0_0 a0_1 a0_2 a0_3 a0_4 a0_5).bind fun bt488 => (some (bt488.1, bt488.2.1, bt488.2.2.1, bt488.2.2.2.1, bt488.2.2.2.2.1))) = some (r1, r2, r3, r4, r5) := H
 have A2 := aM A20
 clear A20
 replace H := Option.bind_eq_some_iff.mp H
 obtain ⟨⟨t488, t489, t490, t491, t492, t493, t494, t495⟩, A30, H⟩ := H
 replace H : (some (t488, t489, t490, t491, t492)) = some (r1, r2, r3, r4, r5) := H
 have A3 := aM A30
 clear A30
 simp only [Option.some.injEq, Prod.mk.injEq] at H
 obtain ⟨rfl, rfl, rfl, rfl, rfl⟩ := H
 go_enter Try.func20, Try.ntmps20
 go_wp2_with (first | ((with_reducible refine gate_dst (N := 1) rfl ?_); refine box_event ?hg (N := 1) ?hd (cs := #[.int .i64 a0_0, .int .i32 a0_1, .bool a0_2, .bool a0_3, .bool a0_4, .string a0_5]) (t := 25) ?hr ?_; (case hd => rfl); (case hg => rfl); (case hr => first | (go_simp; done) | (go_simp; rfl)); intro gb482 hg w4 hbox hb; have BK482 := aM (hbox); have GW482 := aM ((by rw [hg]; exact (bwZ (by apply_rules (transparency := .reducible) [HB.1, bwA, bwN, bwD])) : w.heap.size ≤ gb482)); have GE482 := aM ((by rw [hg]; exact (bwZ (by apply_rules (transparency := .reducible) [HB.1, bwA, bwN, bwD])) : w.heap.size ≤ gb482)); replace HB := aM (bwP (by apply_rules (transparency := .reducible) [HB.1, bwA, bwN, bwD]) hb); clear hb hbox hg) | ((with_reducible refine gate_dst (N := 2) rfl ?_); refine box_event ?hg (N := 2) ?hd (cs := #[.int .i64 0, .int .i64 0, .string (⟨#[]⟩ : ByteArray), .int .u8 0]) (t := 36) ?hr ?_; (case hd => rfl); (case hg => rfl); (case hr => first | (go_simp; done) | (go_simp; rfl)); intro gb483 hg w5 hbox hb; have BK483 := aM (hbox); have GW483 := aM ((by rw [hg]; exact (bwZ (by apply_rules (transparency := .reducible) [HB.1, bwA, bwN, bwD, bwS, GE482.1])) : w.heap.size ≤ gb483)); have GE483 := aM ((by rw [hg]; exact (bwZ (by apply_rules (transparency := .reducible) [HB.1, bwA, bwN, bwD, bwS, GE482.1])) : w.heap.size ≤ gb483)); replace HB := aM (bwP (by apply_rules (transparency := .reducible) [HB.1, bwA, bwN, bwD, bwS, GE482.1]) hb); have NB482_483 := aM ((by rw [hg]; exact Nat.ne_of_lt (blk_lt (g := gb482) (o := .cells #[.int .i64 a0_0, .int .i32 a0_1, .bool a0_2, .bool a0_3, .bool a0_4, .string a0_5] 25 (0, 0)) (by apply_rules (transparency := .reducible) [BK482.1, bkN, bkD, bkA])) : gb482 ≠ gb483)); have NB483_482 := aM ((by rw [hg]; exact Nat.ne_of_gt (blk_lt (g := gb482) (o := .cells #[.int .i64 a0_0, .int .i32 a0_1, .bool a0_2, .bool a0_3, .bool a0_4, .string a0_5] 25 (0, 0)) (by apply_rules (transparency := .reducible) [BK482.1, bkN, bkD, bkA])) : gb483 ≠ gb482)); replace BK482 := aM (bkB (g := gb482) (o := .cells #[.int .i64 a0_0, .int .i32 a0_1, .bool a0_2, .bool a0_3, .bool a0_4, .string a0_5] 25 (0, 0)) (by apply_rules (transparency := .reducible) [BK482.1, bkN, bkD, bkA]) hb); clear hb hbox hg) | ((with_reducible refine gate_callee (f := 25) rfl ?_); refine goesL_ (some 5) rfl rfl Try.func25 (by kernel_rfl) rfl #[] rfl (by (try simp only [List.map_toArray, List.map_cons, List.map_nil]); first | done | rfl) ?_; (with_reducible refine (bodkinref19_New.calls  t484 t485 t486 w _ ?side1 A2.1).mono ?_); (case side1 => apply_rules (transparency := .reducible) [HB.1, bwA, bwN, bwD, bwS, GE482.1, GE483.1]); rintro e w6 ⟨g487, rfl, hi, hb, hb2⟩; refine ⟨_, rfl, ?_⟩; replace HB := aM (hb); have HI487 := aM (hi); have NB487_482 := aM (IsS59.ne_blk hi (bkB (g := gb482) (o := .cells #[.int .i64 a0_0, .int .i32 a0_1, .bool a0_2, .bool a0_3, .bool a0_4, .string a0_5] 25 (0, 0)) (by apply_rules (transparency := .reducible) [BK482.1, bkN, bkD, bkA]) hb2) (by decide)); have NB482_487 := aM (Ne.symm (IsS59.ne_blk hi (bkB (g := gb482) (o := .cells #[.int .i64 a0_0, .int .i32 a0_1, .bool a0_2, .bool a0_3, .bool a0_4, .string a0_5] 25 (0, 0)) (by apply_rules (transparency := .reducible) [BK482.1, bkN, bkD, bkA]) hb2) (by decide))); replace BK482 := aM (bkB (g := gb482) (o := .cells #[.int .i64 a0_0, .int .i32 a0_1, .bool a0_2, .bool a0_3, .bool a0_4, .string a0_5] 25 (0, 0)) (by apply_rules (transparency := .reducible) [BK482.1, bkN, bkD, bkA]) hb2); have NB487_483 := aM (IsS59.ne_blk hi (bkB (g := gb483) (o := .cells #[.int .i64 0, .int .i64 0, .string (⟨#[]⟩ : ByteArray), .int .u8 0] 36 (0, 0)) (by apply_rules (transparency := .reducible) [BK483.1, bkN, bkD, bkA]) hb2) (by decide)); have NB483_487 := aM (Ne.symm (IsS59.ne_blk hi (bkB (g := gb483) (o := .cells #[.int .i64 0, .int .i64 0, .string (⟨#[]⟩ : ByteArray), .int .u8 0] 36 (0, 0)) (by apply_rules (transparency := .reducible) [BK483.1, bkN, bkD, bkA]) hb2) (by decide))); replace BK483 := aM (bkB (g := gb483) (o := .cells #[.int .i64 0, .int .i64 0, .string (⟨#[]⟩ : ByteArray), .int .u8 0] 36 (0, 0)) (by apply_rules (transparency := .reducible) [BK483.1, bkN, bkD, bkA]) hb2); (try clear hb); (try clear hb2); (try clear hk); (try clear hi); have hnb7 := NB482_483.1; have hnc7 := NB483_482.1; have hnb8 := NB482_487.1; have hnc8 := NB487_482.1; obtain ⟨z9_0, z9_1, z9_2, z9_3, z9_4, z9_5, z9_6, z9_7, z9_8, z9_9, z9_10, z9_11⟩ := bx6 BK482.1) | ((with_reducible refine gate_callee (f := 29) rfl ?_); refine goesL_ (some 8) rfl rfl Try.func29 (by kernel_rfl) rfl #[.pointer (some ⟨g487, 0, none⟩), .agg #[.int .i64 a0_0, .int .i32 a0_1, .bool a0_2, .bool a0_3, .bool a0_4, .string a0_5]] rfl (by (try simp only [List.map_toArray, List.map_cons, List.map_nil]); first | done | rfl) ?_; (with_reducible refine (bodkinref19_Binder_Key.calls k g487 t484 t485 t486 a0_0 a0_1 a0_2 a0_3 a0_4 a0_5 t488 t489 t490 t491 t492 t493 t494 t495 w _ ?side1 ?side2 A3.1).mono ?_); (case side1 => repeat (first | (with_reducible first | exact HI487.1 | apply IsS59.alloc | apply IsS59.drewN | apply IsS59.drew | apply IsS59.set_0 | apply IsS59.set_1 | apply IsS59.set_2 | refine IsS59.far ?_ NB487_482.1 _ | refine IsS59.far ?_ NB487_483.1 _) | exact HI487.1)); (case side2 => apply_rules (transparency := .reducible) [HB.1, bwA, bwN, bwD, bwS, (IsS59.ge HI487.1), GE482.1, GE483.1]); rintro e w10 ⟨rfl, hi, hb, hk⟩; refine ⟨_, rfl, ?_⟩; replace BK482 := aM (KeepBut.blk hk (g' := gb482) (o := .cells #[.int .i64 a0_0, .int .i32 a0_1, .bool a0_2, .bool a0_3, .bool a0_4, .string a0_5] 25 (0, 0)) (by apply_rules (transparency := .reducible) [BK482.1, bkN, bkD, bkA]) NB482_487.1 (by simp)); replace BK483 := aM (KeepBut.blk hk (g' := gb483) (o := .cells #[.int .i64 0, .int .i64 0, .string (⟨#[]⟩ : ByteArray), .int .u8 0] 36 (0, 0)) (by apply_rules (transparency := .reducible) [BK483.1, bkN, bkD, bkA]) NB483_487.1 (by simp)); replace HB := aM (hb); replace HI487 := aM (hi); (try clear hb); (try clear hb2); (try clear hk); (try clear hi); have hnb11 := NB483_487.1; have hnc11 := NB487_483.1; obtain ⟨z12_0, z12_1, z12_2, z12_3, z12_4, z12_5, z12_6, z12_7⟩ := bx4 BK483.1))
 refine bodyPost_ret (results_ct rfl _ _ gb483 36 #[.int .i64 t488, .int .i64 t489, .string t490, .int .u8 t491] (0, 0) _ rfl (by (with_reducible repeat first | apply bkN | apply bkD | apply bkA); refine put4 (cs := #[.int .i64 0, .int .i64 0, .string (⟨#[]⟩ : ByteArray), .int .u8 0]) ?_ rfl; (with_reducible repeat first | apply bkN | apply bkD | apply bkA); exact BK483.1) Try.underlying36 rfl (by kernel_rfl)) rfl ?_
 exact ⟨rfl, by apply_rules (transparency := .reducible) [HB.1, bwA, bwN, bwD, bwS, (IsS59.ge HI487.1), GE482.1, GE483.1]⟩

-- NOT PRINTED: function 8 (bodkinlaw19_BindCommands)

/-! ### bind_Binder_Prefix: function 22 -/
def bind_Binder_Prefix.f (s0_0 : Int) (s0_1 : Bool) (s0_2 : Int) : Option (ByteArray × Int × Bool × Int) := if s0_0 = 0 then (some ((⟨#[]⟩ : ByteArray), s0_0, s0_1, s0_2)) else (some (strOfNums (([s0_0] : List Int)), s0_0, s0_1, s0_2))
set_option maxHeartbeats 8000000 in
set_option maxRecDepth 100000 in
theorem bind_Binder_Prefix.calls (g : Nat) (s0_0 : Int) (s0_1 : Bool) (s0_2 : Int) (r1 : ByteArray) (r2 : Int) (r3 : Bool) (r4 : Int) (w0 w : World) (hI : IsS53 w0 w g s0_0 s0_1 s0_2) (hB : Below w0.heap.size w0 w) (h : bind_Binder_Prefix.f s0_0 s0_1 s0_2 = some (r1, r2, r3, r4)) :
    Calls Try.prog 22 #[.pointer (some ⟨g, 0, none⟩)] w fun e w' => e = .returned (.string r1) ∧ IsS53 w0 w' g r2 r3 r4 ∧ Below w0.heap.size w0 w' ∧ KeepBut w w' g none := by
 have HI0 := aM hI
 have HK := aM (KeepBut.refl w g none)
 have HL := aM hB.size
 clear hI
 have HW0 := aM hB.size
 have HB := aM hB
 clear hB
 have H : (if s0_0 = 0 then (some ((⟨#[]⟩ : ByteArray), s0_0, s0_1, s0_2)) else (some (strOfNums (([s0_0] : List Int)), s0_0, s0_1, s0_2))) = some (r1, r2, r3, r4) := h
 clear h
 by_cases c2 : s0_0 = 0
 ·rw [if_pos c2] at H
  have c2b0 : (s0_0 == 0) = true := beq_iff_eq.mpr c2
  have c2b1 : (s0_0 != 0) = false := bne_eq_false_iff_eq.mpr c2
  clear c2
  simp only [Option.some.injEq, Prod.mk.injEq] at H
  obtain ⟨rfl, rfl, rfl, rfl⟩ := H
  obtain ⟨HGz3, hgz3⟩ := HI0.1
  have hcz3_0 := cellS53_0 HGz3
  have hcz3_1 := cellS53_1 HGz3
  have hcz3_2 := cellS53_2 HGz3
  have hfz3_0 := bkF HGz3 0
  have hfz3_1 := bkF HGz3 1
  have hfz3_2 := bkF HGz3 2
  clear HGz3 hgz3
  go_enter Try.func22, Try.ntmps22
  go_wp2
  go_ret
  exact ⟨rfl, by apply_rules (transparency := .reducible) [HI0.1, IsS53.alloc, IsS53.drewN, IsS53.drew, IsS53.set_0, IsS53.set_1, IsS53.set_2], by apply_rules (transparency := .reducible) [HB.1, bwA, bwN, bwD, bwS, (IsS53.ge HI0.1)], by apply_rules (transparency := .reducible) [HK.1, KeepBut.set_, kpN, kpD, kpA]⟩
 rw [if_neg c2] at H
 have c2b0 : (s0_0 == 0) = false := beq_eq_false_iff_ne.mpr c2
 have c2b1 : (s0_0 != 0) = true := bne_iff_ne.mpr c2
 obtain ⟨y541, hy541⟩ : ∃ y_ : List Int, y_ = (([s0_0] : List Int)) := ⟨_, rfl⟩
 replace H : (some (strOfNums y541, s0_0, s0_1, s0_2)) = some (r1, r2, r3, r4) := by first | (rw [hy541]; with_reducible exact H) | (have H2_ := (Option.bind_some _ _).symm.trans H; rw [hy541]; with_reducible exact H2_) | (have H2_ := (Option.bind_some _ _).symm.trans H; with_reducible exact H2_) | with_reducible exact H | (rw [hy541]; exact H) | exact H
 have Ny541 := aM hy541
 clear hy541
 simp only [Option.some.injEq, Prod.mk.injEq] at H
 obtain ⟨rfl, rfl, rfl, rfl⟩ := H
 obtain ⟨HGz4, hgz4⟩ := HI0.1
 have hcz4_0 := cellS53_0 HGz4
 have hcz4_1 := cellS53_1 HGz4
 have hcz4_2 := cellS53_2 HGz4
 have hfz4_0 := bkF HGz4 0
 have hfz4_1 := bkF HGz4 1
 have hfz4_2 := bkF HGz4 2
 clear HGz4 hgz4
 go_enter Try.func22, Try.ntmps22
 go_wp2_with (first | ((with_reducible refine gate_dst (N := 16) rfl ?_); refine Kd.R_lit (Kd.int .u8) _ 5 ?hg (N := 16) ?hd (xs := ([s0_0] : List Int)) (inner := [.int .u8 s0_0]) (ok := fun _ => True) (okp := fun _ => True) ?hr ?hp (fun _ hk => hk) trivial (Below.refl _ _) (Nat.le_refl _) (by simp) ?_; (case hd => rfl); (case hg => rfl); (case hr => first | (go_simp; done) | (go_simp; rfl)); (case hp => exact (Reps.one (show Kd.M (Kd.int .u8) _ _ _ s0_0 [.int .u8 s0_0] from rfl) (Reps.none _ _))); intro v542 w5 ho6 hb hg_ hnew_; clear hg_ hnew_; (first | rw [← Ny541.1] at ho6 | (simp only [Int.reduceToNat] at ho6; rw [← Ny541.1] at ho6)); have HO543 := aM (Kd.R_lower ho6 (keep_size (w := w) (g := g) (row := none) (by apply_rules (transparency := .reducible) [HK.1, KeepBut.set_, kpN, kpD, kpA]))); replace HK := aM (KeepBut.trans (by apply_rules (transparency := .reducible) [HK.1, KeepBut.set_, kpN, kpD, kpA]) (KeepBut.of_below hb g none) (.inl rfl)); replace HB := aM (bwP (by apply_rules (transparency := .reducible) [HB.1, bwA, bwN, bwD, bwS, (IsS53.ge HI0.1)]) hb); replace HI0 := aM (IsS53.below (by apply_rules (transparency := .reducible) [HI0.1, IsS53.alloc, IsS53.drewN, IsS53.drew, IsS53.set_0, IsS53.set_1, IsS53.set_2]) hb); clear hb ho6; have hcv7 := own_string (P := Try.prog) Try.underlying45 Try.underlying5 Try.underlying9 (Kd.own_of_R HO543.1)))
 go_ret
 exact ⟨rfl, by apply_rules (transparency := .reducible) [HI0.1, IsS53.alloc, IsS53.drewN, IsS53.drew, IsS53.set_0, IsS53.set_1, IsS53.set_2], by apply_rules (transparency := .reducible) [HB.1, bwA, bwN, bwD, bwS, (IsS53.ge HI0.1)], by apply_rules (transparency := .reducible) [HK.1, KeepBut.set_, kpN, kpD, kpA]⟩

end Go.Proofs.Ytgkaiagoogjibaa.PBind
