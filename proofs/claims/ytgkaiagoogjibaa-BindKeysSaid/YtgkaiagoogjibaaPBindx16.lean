-- written by pp.py of this session's wip: the kit's print, turned in a few places, over this claim's program
import Derived.Test.YtgkaiagoogjibaaPBindx0
import Derived.Test.YtgkaiagoogjibaaPBindx10
import Derived.Test.YtgkaiagoogjibaaPBindx11
import Derived.Test.YtgkaiagoogjibaaPBindx13
import Derived.Test.YtgkaiagoogjibaaPBindx14
import Derived.Test.YtgkaiagoogjibaaPBindx15
namespace Go.Proofs.Ytgkaiagoogjibaa.PBind
open Go.RowKit Go.Proofs.YtgkaiagoogjibaaW.PrintWords Go.Proofs.YtgkaiagoogjibaaW.PrintLast Go.Proofs.YtgkaiagoogjibaaW.PrintMore
open Go.Proofs.YtgkaiagoogjibaaW.PrintWords renaming blk_drewN → bkN, blk_drew → bkD, blk_alloc → bkA, below_alloc → bwA, pw_below_drewN → bwN, below_drew1 → bwD, below_size → bwZ, blk_below → bkB, blk_cell → bkC, blk_frozen → bkF, blk_put → bkU, blk_far → bkR, blk_lt → bkL, keep_drew → kpD, keep_alloc → kpA
open Go.Proofs.YtgkaiagoogjibaaW.PrintWords.Aside0 renaming mk → aM
attribute [local go_sem] max2_int min2_int max_two min_two max_three min_three max_four min_four   -- for this text's walks alone
set_option linter.unusedVariables false
set_option linter.unusedSimpArgs false

/-! ### bodkinref19_Binder_Reset: function 42 -/
def bodkinref19_Binder_Reset.f (s0_0 : ByteArray) (s0_1 : Int) (s0_2 : Bool) : Option (ByteArray × Int × Bool) := some ((⟨#[]⟩ : ByteArray), 0, false)
set_option maxHeartbeats 8000000 in
set_option maxRecDepth 100000 in
theorem bodkinref19_Binder_Reset.calls (g : Nat) (s0_0 : ByteArray) (s0_1 : Int) (s0_2 : Bool) (r1 : ByteArray) (r2 : Int) (r3 : Bool) (w0 w : World) (hI : IsS59 w0 w g s0_0 s0_1 s0_2) (hB : Below w0.heap.size w0 w) (h : bodkinref19_Binder_Reset.f s0_0 s0_1 s0_2 = some (r1, r2, r3)) :
    Calls Try.prog 42 #[.pointer (some ⟨g, 0, none⟩)] w fun e w' => e = .returned (.tuple #[]) ∧ IsS59 w0 w' g r1 r2 r3 ∧ Below w0.heap.size w0 w' ∧ KeepBut w w' g none := by
 have HI0 := aM hI
 have HK := aM (KeepBut.refl w g none)
 have HL := aM hB.size
 clear hI
 have HW0 := aM hB.size
 have HB := aM hB
 clear hB
 have H : (some ((⟨#[]⟩ : ByteArray), 0, false)) = some (r1, r2, r3) := h
 clear h
 simp only [Option.some.injEq, Prod.mk.injEq] at H
 obtain ⟨rfl, rfl, rfl⟩ := H
 obtain ⟨HGz2, hgz2⟩ := HI0.1
 have hcz2_0 := cellS59_0 HGz2
 have hcz2_1 := cellS59_1 HGz2
 have hcz2_2 := cellS59_2 HGz2
 have hfz2_0 := bkF HGz2 0
 have hfz2_1 := bkF HGz2 1
 have hfz2_2 := bkF HGz2 2
 clear HGz2 hgz2
 go_enter Try.func42, Try.ntmps42
 go_wp2
 first | go_end0 | ((try simp only [Exit.inBlock, Exit.then]); refine bodyPost_ret (results_none rfl _ _ _) rfl ?_)
 exact ⟨rfl, by apply_rules (transparency := .reducible) [HI0.1, IsS59.alloc, IsS59.drewN, IsS59.drew, IsS59.set_0, IsS59.set_1, IsS59.set_2], by apply_rules (transparency := .reducible) [HB.1, bwA, bwN, bwD, bwS, (IsS59.ge HI0.1)], by apply_rules (transparency := .reducible) [HK.1, KeepBut.set_, keep_drewN, kpD, kpA]⟩

/-! ### bodkinref19_Binder_Key: function 29 -/
/-- What a call of 'Key' holds beside the state: the box of the key, the result's cell. -/
structure RKeyAt (w0 w W : World) (g : Nat) (s0_0 : ByteArray) (s0_1 : Int) (s0_2 : Bool) (a1_0 : Int) (a1_1 : Int) (a1_2 : Bool) (a1_3 : Bool) (a1_4 : Bool) (a1_5 : ByteArray) : Prop where
  st : IsS59 w0 W g s0_0 s0_1 s0_2
  bel : Below w0.heap.size w0 W
  keep : KeepBut w W g none
  box : W.heap[w.heap.size]? = some (.cells #[.int .i64 a1_0, .int .i32 a1_1, .bool a1_2, .bool a1_3, .bool a1_4, .string a1_5] 25 (0, 0))
  res : W.heap[w.heap.size + 1]? = some (.cells #[.int .i64 0, .int .i64 0, .string ⟨#[]⟩, .int .u8 0] 36 (0, 0))
theorem RKeyAt.start {w0 w : World} {g : Nat} {s0_0 : ByteArray} {s0_1 : Int} {s0_2 : Bool} {a1_0 : Int} {a1_1 : Int} {a1_2 : Bool} {a1_3 : Bool} {a1_4 : Bool} {a1_5 : ByteArray} (hI : IsS59 w0 w g s0_0 s0_1 s0_2) (hB : Below w0.heap.size w0 w) :
    RKeyAt w0 w ((w.alloc (.cells #[.int .i64 a1_0, .int .i32 a1_1, .bool a1_2, .bool a1_3, .bool a1_4, .string a1_5] 25)).alloc (.cells #[.int .i64 0, .int .i64 0, .string ⟨#[]⟩, .int .u8 0] 36)) g s0_0 s0_1 s0_2 a1_0 a1_1 a1_2 a1_3 a1_4 a1_5 :=
  ⟨(hI.alloc _).alloc _, bwA (bwA hB _) _, kpA (kpA (KeepBut.refl _ _ _) _) _, bkA (heap_alloc_new w _) _, heap_alloc2_new w _ _⟩
theorem RKeyAt.call {w0 w W W1 : World} {g : Nat} {s0_0 t0 : ByteArray} {s0_1 t1 : Int} {s0_2 t2 : Bool} {a1_0 : Int} {a1_1 : Int} {a1_2 : Bool} {a1_3 : Bool} {a1_4 : Bool} {a1_5 : ByteArray} (h : RKeyAt w0 w W g s0_0 s0_1 s0_2 a1_0 a1_1 a1_2 a1_3 a1_4 a1_5) (hlt : g < w.heap.size)
    (hI : IsS59 w0 W1 g t0 t1 t2) (hB : Below w0.heap.size w0 W1) (hK : KeepBut W W1 g none) : RKeyAt w0 w W1 g t0 t1 t2 a1_0 a1_1 a1_2 a1_3 a1_4 a1_5 :=
  ⟨hI, hB, h.keep.trans hK (.inl rfl), hK.blk h.box (by omega) (by simp), hK.blk h.res (by omega) (by simp)⟩
theorem RKeyAt.quiet {w0 w W W1 : World} {g : Nat} {s0_0 : ByteArray} {s0_1 : Int} {s0_2 : Bool} {a1_0 : Int} {a1_1 : Int} {a1_2 : Bool} {a1_3 : Bool} {a1_4 : Bool} {a1_5 : ByteArray} (h : RKeyAt w0 w W g s0_0 s0_1 s0_2 a1_0 a1_1 a1_2 a1_3 a1_4 a1_5)
    (hB : Below W.heap.size W W1) : RKeyAt w0 w W1 g s0_0 s0_1 s0_2 a1_0 a1_1 a1_2 a1_3 a1_4 a1_5 :=
  ⟨h.st.below hB, below_then h.bel h.bel.size hB, h.keep.trans (KeepBut.of_below hB g none) (.inl rfl), bkB h.box hB, bkB h.res hB⟩

theorem RKeyAt.far {w0 w W : World} {g : Nat} {s0_0 : ByteArray} {s0_1 : Int} {s0_2 : Bool} {a1_0 : Int} {a1_1 : Int} {a1_2 : Bool} {a1_3 : Bool} {a1_4 : Bool} {a1_5 : ByteArray} (h : RKeyAt w0 w W g s0_0 s0_1 s0_2 a1_0 a1_1 a1_2 a1_3 a1_4 a1_5)
    {b : Nat} (h1 : w0.heap.size ≤ b) (h2 : w.heap.size ≤ b) (hg : g ≠ b) (h3 : w.heap.size ≠ b) (h4 : w.heap.size + 1 ≠ b) (j : Nat) (u : Value) : RKeyAt w0 w (W.setCell ⟨b, j, none⟩ u) g s0_0 s0_1 s0_2 a1_0 a1_1 a1_2 a1_3 a1_4 a1_5 :=
  ⟨h.st.far hg u, bwS h.bel h1, keep_far h.keep h2 u, bkR h.box h3 u, bkR h.res h4 u⟩
theorem RKeyAt.four {w0 w W : World} {g : Nat} {s0_0 : ByteArray} {s0_1 : Int} {s0_2 : Bool} {a1_0 : Int} {a1_1 : Int} {a1_2 : Bool} {a1_3 : Bool} {a1_4 : Bool} {a1_5 : ByteArray} (h : RKeyAt w0 w W g s0_0 s0_1 s0_2 a1_0 a1_1 a1_2 a1_3 a1_4 a1_5)
    {b : Nat} (h1 : w0.heap.size ≤ b) (h2 : w.heap.size ≤ b) (hg : g ≠ b) (h3 : w.heap.size ≠ b) (h4 : w.heap.size + 1 ≠ b) (u0 u1 u2 u3 : Value) : RKeyAt w0 w ((((W.setCell ⟨b, 0, none⟩ u0).setCell ⟨b, 1, none⟩ u1).setCell ⟨b, 2, none⟩ u2).setCell ⟨b, 3, none⟩ u3) g s0_0 s0_1 s0_2 a1_0 a1_1 a1_2 a1_3 a1_4 a1_5 :=
  (((h.far h1 h2 hg h3 h4 0 u0).far h1 h2 hg h3 h4 1 u1).far h1 h2 hg h3 h4 2 u2).far h1 h2 hg h3 h4 3 u3


set_option maxHeartbeats 1000000 in
set_option maxRecDepth 100000 in
theorem rkey_digit (g : Nat) (s0_0 : ByteArray) (s0_1 : Int) (s0_2 : Bool) (a1_0 : Int) (a1_1 : Int) (a1_2 : Bool) (a1_3 : Bool) (a1_4 : Bool) (a1_5 : ByteArray) (w0 w : World) (hI : IsS59 w0 w g s0_0 s0_1 s0_2) (hB : Below w0.heap.size w0 w) (he : (s0_0.toList == ([] : List UInt8)) = true) (he' : (s0_0.toList != ([] : List UInt8)) = false) (h : bodkinref19_digit.f a1_0 a1_1 a1_2 a1_3 a1_4 a1_5 s0_2 = some true) :
    Calls Try.prog 29 #[.pointer (some ⟨g, 0, none⟩), .agg #[.int .i64 a1_0, .int .i32 a1_1, .bool a1_2, .bool a1_3, .bool a1_4, .string a1_5]] w fun e w' => e = .returned (.tuple #[.agg #[.int .i64 0, .int .i64 0, .string ⟨#[]⟩, .int .u8 0], .bool false]) ∧ IsS59 w0 w' g s0_0 (if wrap64 (wrap64 (s0_1 * 10) + wrap64 (wrap32 (a1_1 - 48))) > 1000 then 1000 else wrap64 (wrap64 (s0_1 * 10) + wrap64 (wrap32 (a1_1 - 48)))) true ∧ Below w0.heap.size w0 w' ∧ KeepBut w w' g none := by
 have HS0 := aM hI.1
 have hlt := aM hI.lt
 have hge := aM hI.ge
 have HA := aM (RKeyAt.start (a1_0 := a1_0) (a1_1 := a1_1) (a1_2 := a1_2) (a1_3 := a1_3) (a1_4 := a1_4) (a1_5 := a1_5) hI hB)
 have HBS := aM hB.size
 clear hI hB
 have HD := aM h
 clear h
 have hne1 : g ≠ w.heap.size := by have := hlt.out; omega
 have hne2 : g ≠ w.heap.size + 1 := by have := hlt.out; omega
 have hne1' : w.heap.size ≠ g := by have := hlt.out; omega
 have hne2' : w.heap.size + 1 ≠ g := by have := hlt.out; omega
 have hst : ∀ o1 o2 : Obj, ((w.alloc o1).alloc o2).heap[g]? = some (.cells #[.string s0_0, .int .i64 s0_1, .bool s0_2] 59 (0, 0)) := fun o1 o2 => bkA (bkA HS0.out _) _
 have z0 : ∀ o1 o2 : Obj, ((w.alloc o1).alloc o2).cell? ⟨g, 0, none⟩ = some (.string s0_0) := fun o1 o2 => (bkC (hst o1 o2) 0).trans rfl
 clear hst
 go_enter Try.func29, Try.ntmps29
 go_wp2
 refine wp_region_still_tail 5 (by kernel_rfl) (by kernel_rfl) ?_
 simp only [List.take_succ_cons, List.take_zero, List.drop_succ_cons, List.drop_zero]
 change wpStill _ _ (World.drew ((w.alloc (.cells #[.int .i64 a1_0, .int .i32 a1_1, .bool a1_2, .bool a1_3, .bool a1_4, .string a1_5] 25)).alloc (.cells #[.int .i64 0, .int .i64 0, .string ⟨#[]⟩, .int .u8 0] 36))) (fun a' => wpList _ _ _ _ a' (World.drew ((w.alloc (.cells #[.int .i64 a1_0, .int .i32 a1_1, .bool a1_2, .bool a1_3, .bool a1_4, .string a1_5] 25)).alloc (.cells #[.int .i64 0, .int .i64 0, .string ⟨#[]⟩, .int .u8 0] 36)))) _ _
 have hAT : RKeyAt w0 w (World.drew ((w.alloc (.cells #[.int .i64 a1_0, .int .i32 a1_1, .bool a1_2, .bool a1_3, .bool a1_4, .string a1_5] 25)).alloc (.cells #[.int .i64 0, .int .i64 0, .string ⟨#[]⟩, .int .u8 0] 36))) g s0_0 s0_1 s0_2 a1_0 a1_1 a1_2 a1_3 a1_4 a1_5 := HA.1.quiet (Below.refl _ _).drew
 generalize World.drew ((w.alloc (.cells #[.int .i64 a1_0, .int .i32 a1_1, .bool a1_2, .bool a1_3, .bool a1_4, .string a1_5] 25)).alloc (.cells #[.int .i64 0, .int .i64 0, .string ⟨#[]⟩, .int .u8 0] 36)) = wT at hAT ⊢
 have HAT := aM hAT
 clear hAT z0 HA
 have b0 : wT.cell? ⟨w.heap.size, 0, none⟩ = some (.int .i64 a1_0) := (bkC HAT.out.box 0).trans rfl
 have b1 : wT.cell? ⟨w.heap.size, 1, none⟩ = some (.int .i32 a1_1) := (bkC HAT.out.box 1).trans rfl
 have b2 : wT.cell? ⟨w.heap.size, 2, none⟩ = some (.bool a1_2) := (bkC HAT.out.box 2).trans rfl
 have b3 : wT.cell? ⟨w.heap.size, 3, none⟩ = some (.bool a1_3) := (bkC HAT.out.box 3).trans rfl
 have b4 : wT.cell? ⟨w.heap.size, 4, none⟩ = some (.bool a1_4) := (bkC HAT.out.box 4).trans rfl
 have b5 : wT.cell? ⟨w.heap.size, 5, none⟩ = some (.string a1_5) := (bkC HAT.out.box 5).trans rfl
 have c0 := cellS59_0 HAT.out.st.1
 have f0 := bkF HAT.out.st.1 0
 have c1 := cellS59_1 HAT.out.st.1
 have f1 := bkF HAT.out.st.1 1
 have c2 := cellS59_2 HAT.out.st.1
 have f2 := bkF HAT.out.st.1 2
 repeat still_step
 refine wpStill_nil ?_
 go_wp2_with (first
  | (go_at_call 37; refine (bodkinref19_digit.calls a1_0 a1_1 a1_2 a1_3 a1_4 a1_5 s0_2 true _ HD.out).mono ?_; rintro e w1 ⟨rfl, hB2⟩; have HA1 := aM (HAT.out.quiet hB2); clear hB2 HAT HD; clear b0 b1 b2 b3 b4 b5 c0 f0 c1 f1 c2 f2; have b0 : w1.cell? ⟨w.heap.size, 0, none⟩ = some (.int .i64 a1_0) := (bkC HA1.out.box 0).trans rfl; have b1 : w1.cell? ⟨w.heap.size, 1, none⟩ = some (.int .i32 a1_1) := (bkC HA1.out.box 1).trans rfl; have b2 : w1.cell? ⟨w.heap.size, 2, none⟩ = some (.bool a1_2) := (bkC HA1.out.box 2).trans rfl; have b3 : w1.cell? ⟨w.heap.size, 3, none⟩ = some (.bool a1_3) := (bkC HA1.out.box 3).trans rfl; have b4 : w1.cell? ⟨w.heap.size, 4, none⟩ = some (.bool a1_4) := (bkC HA1.out.box 4).trans rfl; have b5 : w1.cell? ⟨w.heap.size, 5, none⟩ = some (.string a1_5) := (bkC HA1.out.box 5).trans rfl; have c0 := cellS59_0 HA1.out.st.1; have f0 := bkF HA1.out.st.1 0; have c1 := cellS59_1 HA1.out.st.1; have f1 := bkF HA1.out.st.1 1; have c2 := cellS59_2 HA1.out.st.1; have f2 := bkF HA1.out.st.1 2; have d0 : w1.cell? ⟨w.heap.size + 1, 0, none⟩ = some (.int .i64 0) := (bkC HA1.out.res 0).trans rfl; have e0 := bkF HA1.out.res 0; have d1 : w1.cell? ⟨w.heap.size + 1, 1, none⟩ = some (.int .i64 0) := (bkC HA1.out.res 1).trans rfl; have e1 := bkF HA1.out.res 1; have d2 : w1.cell? ⟨w.heap.size + 1, 2, none⟩ = some (.string ⟨#[]⟩) := (bkC HA1.out.res 2).trans rfl; have e2 := bkF HA1.out.res 2; have d3 : w1.cell? ⟨w.heap.size + 1, 3, none⟩ = some (.int .u8 0) := (bkC HA1.out.res 3).trans rfl; have e3 := bkF HA1.out.res 3))
 have hmin : ∀ x : Int, x > 1000 ∨ ¬ x > 1000 := fun x => by omega
 rcases hmin (wrap64 (wrap64 (s0_1 * 10) + wrap64 (wrap32 (a1_1 - 48)))) with hm | hm
 ·clear hmin
  have HM := aM hm
  go_region
  go_wp2
  refine bodyPost_ret (results_ct rfl _ _ (w.heap.size + 1) 36 #[.int .i64 0, .int .i64 0, .string ⟨#[]⟩, .int .u8 0] (0, 0) _ rfl ?_ Try.underlying36 rfl (by kernel_rfl)) rfl ?_
  ·exact bkD (bkU (cs := #[.int .i64 0, .int .i64 0, .string ⟨#[]⟩, .int .u8 0]) (bkU (cs := #[.int .i64 0, .int .i64 0, .string ⟨#[]⟩, .int .u8 0]) (bkU (cs := #[.int .i64 0, .int .i64 0, .string ⟨#[]⟩, .int .u8 0]) (bkU (cs := #[.int .i64 0, .int .i64 0, .string ⟨#[]⟩, .int .u8 0]) (bkR (bkR (bkR HA1.out.res hne2' _) hne2' _) hne2' _) 0 _ rfl) 1 _ rfl) 2 _ rfl) 3 _ rfl)
  refine ⟨rfl, ?_, ?_, ?_⟩
  ·(try rw [if_pos HM.out])
   exact IsS59.drew (IsS59.far (IsS59.far (IsS59.far (IsS59.far (((HA1.out.st.set_1 _).set_1 _).set_2 _) hne2 _) hne2 _) hne2 _) hne2 _)
  ·have hz : w0.heap.size ≤ w.heap.size + 1 := by have := HBS.out; omega
   exact bwD (bwS (bwS (bwS (bwS (bwS (bwS (bwS HA1.out.bel hge.out) hge.out) hge.out) hz) hz) hz) hz)
  have hz : w.heap.size ≤ w.heap.size + 1 := by omega
  exact kpD (keep_far (keep_far (keep_far (keep_far (((HA1.out.keep.set_ _ _).set_ _ _).set_ _ _) hz _) hz _) hz _) hz _)
 clear hmin
 have HM := aM hm
 go_region
 go_wp2
 refine bodyPost_ret (results_ct rfl _ _ (w.heap.size + 1) 36 #[.int .i64 0, .int .i64 0, .string ⟨#[]⟩, .int .u8 0] (0, 0) _ rfl ?_ Try.underlying36 rfl (by kernel_rfl)) rfl ?_
 ·exact bkD (bkU (cs := #[.int .i64 0, .int .i64 0, .string ⟨#[]⟩, .int .u8 0]) (bkU (cs := #[.int .i64 0, .int .i64 0, .string ⟨#[]⟩, .int .u8 0]) (bkU (cs := #[.int .i64 0, .int .i64 0, .string ⟨#[]⟩, .int .u8 0]) (bkU (cs := #[.int .i64 0, .int .i64 0, .string ⟨#[]⟩, .int .u8 0]) (bkR (bkR HA1.out.res hne2' _) hne2' _) 0 _ rfl) 1 _ rfl) 2 _ rfl) 3 _ rfl)
 refine ⟨rfl, ?_, ?_, ?_⟩
 ·(try rw [if_neg (by have := HM.out; omega)])
  exact IsS59.drew (IsS59.far (IsS59.far (IsS59.far (IsS59.far ((HA1.out.st.set_1 _).set_2 _) hne2 _) hne2 _) hne2 _) hne2 _)
 ·have hz : w0.heap.size ≤ w.heap.size + 1 := by have := HBS.out; omega
  exact bwD (bwS (bwS (bwS (bwS (bwS (bwS HA1.out.bel hge.out) hge.out) hz) hz) hz) hz)
 have hz : w.heap.size ≤ w.heap.size + 1 := by omega
 exact kpD (keep_far (keep_far (keep_far (keep_far ((HA1.out.keep.set_ _ _).set_ _ _) hz _) hz _) hz _) hz _)

theorem new3_at {w : World} (a b o : Obj) (_u : Unit) : (((w.alloc a).alloc b).alloc o).heap[w.heap.size + 2]? = some o := by
 have h := heap_alloc2_new (w.alloc a) b o
 rwa [show (w.alloc a).heap.size = w.heap.size + 1 from by simp] at h

theorem RKeyAt.set0 {w0 w W : World} {g : Nat} {s0_0 : ByteArray} {s0_1 : Int} {s0_2 : Bool} {a1_0 : Int} {a1_1 : Int} {a1_2 : Bool} {a1_3 : Bool} {a1_4 : Bool} {a1_5 : ByteArray} (h : RKeyAt w0 w W g s0_0 s0_1 s0_2 a1_0 a1_1 a1_2 a1_3 a1_4 a1_5)
    (hlt : g < w.heap.size) (p : ByteArray) : RKeyAt w0 w (W.setCell ⟨g, 0, none⟩ (.string p)) g p s0_1 s0_2 a1_0 a1_1 a1_2 a1_3 a1_4 a1_5 :=
  ⟨h.st.set_0 p, bwS h.bel h.st.ge, h.keep.set_ _ _, bkR h.box (by show w.heap.size ≠ g; omega) _, bkR h.res (by show w.heap.size + 1 ≠ g; omega) _⟩
theorem new_at {W : World} {g : Nat} {p : ByteArray} (o : Obj) : ((W.setCell ⟨g, 0, none⟩ (.string p)).alloc o).heap[W.heap.size]? = some o := by
 have h := heap_alloc_new (W.setCell ⟨g, 0, none⟩ (.string p)) o
 rwa [World.size_setCell] at h

set_option maxHeartbeats 1000000 in
set_option maxRecDepth 100000 in
theorem rkey_prefix (k : Nat) (g : Nat) (s0_0 : ByteArray) (s0_1 : Int) (s0_2 : Bool) (a1_0 : Int) (a1_1 : Int) (a1_2 : Bool) (a1_3 : Bool) (a1_4 : Bool) (a1_5 : ByteArray) (p : ByteArray) (w0 w : World) (hI : IsS59 w0 w g s0_0 s0_1 s0_2) (hB : Below w0.heap.size w0 w) (he : (s0_0.toList == ([] : List UInt8)) = true) (he' : (s0_0.toList != ([] : List UInt8)) = false) (h : bodkinref19_digit.f a1_0 a1_1 a1_2 a1_3 a1_4 a1_5 s0_2 = some false) (hp : bodkinref19_prefix.f k a1_0 a1_1 a1_2 a1_3 a1_4 a1_5 = some p) (hp0 : (p.toList == ([] : List UInt8)) = false) (hp1 : (p.toList != ([] : List UInt8)) = true) :
    Calls Try.prog 29 #[.pointer (some ⟨g, 0, none⟩), .agg #[.int .i64 a1_0, .int .i32 a1_1, .bool a1_2, .bool a1_3, .bool a1_4, .string a1_5]] w fun e w' => e = .returned (.tuple #[.agg #[.int .i64 0, .int .i64 0, .string ⟨#[]⟩, .int .u8 0], .bool false]) ∧ IsS59 w0 w' g p s0_1 s0_2 ∧ Below w0.heap.size w0 w' ∧ KeepBut w w' g none := by
 have HS0 := aM hI.1
 have hlt := aM hI.lt
 have hge := aM hI.ge
 have HA := aM (RKeyAt.start (a1_0 := a1_0) (a1_1 := a1_1) (a1_2 := a1_2) (a1_3 := a1_3) (a1_4 := a1_4) (a1_5 := a1_5) hI hB)
 have HBS := aM hB.size
 clear hI hB
 have HD := aM h
 have HP := aM hp
 clear h hp
 have hne1 : g ≠ w.heap.size := by have := hlt.out; omega
 have hne2 : g ≠ w.heap.size + 1 := by have := hlt.out; omega
 have hne1' : w.heap.size ≠ g := by have := hlt.out; omega
 have hne2' : w.heap.size + 1 ≠ g := by have := hlt.out; omega
 have hst : ∀ o1 o2 : Obj, ((w.alloc o1).alloc o2).heap[g]? = some (.cells #[.string s0_0, .int .i64 s0_1, .bool s0_2] 59 (0, 0)) := fun o1 o2 => bkA (bkA HS0.out _) _
 have z0 : ∀ o1 o2 : Obj, ((w.alloc o1).alloc o2).cell? ⟨g, 0, none⟩ = some (.string s0_0) := fun o1 o2 => (bkC (hst o1 o2) 0).trans rfl
 clear hst
 go_enter Try.func29, Try.ntmps29
 go_wp2
 refine wp_region_still_tail 5 (by kernel_rfl) (by kernel_rfl) ?_
 simp only [List.take_succ_cons, List.take_zero, List.drop_succ_cons, List.drop_zero]
 change wpStill _ _ (World.drew ((w.alloc (.cells #[.int .i64 a1_0, .int .i32 a1_1, .bool a1_2, .bool a1_3, .bool a1_4, .string a1_5] 25)).alloc (.cells #[.int .i64 0, .int .i64 0, .string ⟨#[]⟩, .int .u8 0] 36))) (fun a' => wpList _ _ _ _ a' (World.drew ((w.alloc (.cells #[.int .i64 a1_0, .int .i32 a1_1, .bool a1_2, .bool a1_3, .bool a1_4, .string a1_5] 25)).alloc (.cells #[.int .i64 0, .int .i64 0, .string ⟨#[]⟩, .int .u8 0] 36)))) _ _
 have hAT : RKeyAt w0 w (World.drew ((w.alloc (.cells #[.int .i64 a1_0, .int .i32 a1_1, .bool a1_2, .bool a1_3, .bool a1_4, .string a1_5] 25)).alloc (.cells #[.int .i64 0, .int .i64 0, .string ⟨#[]⟩, .int .u8 0] 36))) g s0_0 s0_1 s0_2 a1_0 a1_1 a1_2 a1_3 a1_4 a1_5 := HA.1.quiet (Below.refl _ _).drew
 generalize World.drew ((w.alloc (.cells #[.int .i64 a1_0, .int .i32 a1_1, .bool a1_2, .bool a1_3, .bool a1_4, .string a1_5] 25)).alloc (.cells #[.int .i64 0, .int .i64 0, .string ⟨#[]⟩, .int .u8 0] 36)) = wT at hAT ⊢
 have HAT := aM hAT
 clear hAT z0 HA
 have b0 : wT.cell? ⟨w.heap.size, 0, none⟩ = some (.int .i64 a1_0) := (bkC HAT.out.box 0).trans rfl
 have b1 : wT.cell? ⟨w.heap.size, 1, none⟩ = some (.int .i32 a1_1) := (bkC HAT.out.box 1).trans rfl
 have b2 : wT.cell? ⟨w.heap.size, 2, none⟩ = some (.bool a1_2) := (bkC HAT.out.box 2).trans rfl
 have b3 : wT.cell? ⟨w.heap.size, 3, none⟩ = some (.bool a1_3) := (bkC HAT.out.box 3).trans rfl
 have b4 : wT.cell? ⟨w.heap.size, 4, none⟩ = some (.bool a1_4) := (bkC HAT.out.box 4).trans rfl
 have b5 : wT.cell? ⟨w.heap.size, 5, none⟩ = some (.string a1_5) := (bkC HAT.out.box 5).trans rfl
 have c0 := cellS59_0 HAT.out.st.1
 have f0 := bkF HAT.out.st.1 0
 have c1 := cellS59_1 HAT.out.st.1
 have f1 := bkF HAT.out.st.1 1
 have c2 := cellS59_2 HAT.out.st.1
 have f2 := bkF HAT.out.st.1 2
 repeat still_step
 refine wpStill_nil ?_
 go_wp2_with (first
  | (go_at_call 37; refine (bodkinref19_digit.calls a1_0 a1_1 a1_2 a1_3 a1_4 a1_5 s0_2 false _ HD.out).mono ?_; rintro e w1 ⟨rfl, hB2⟩; have HA1 := aM (HAT.out.quiet hB2); clear hB2 HAT HD; clear b0 b1 b2 b3 b4 b5 c0 f0 c1 f1 c2 f2; have b0 : w1.cell? ⟨w.heap.size, 0, none⟩ = some (.int .i64 a1_0) := (bkC HA1.out.box 0).trans rfl; have b1 : w1.cell? ⟨w.heap.size, 1, none⟩ = some (.int .i32 a1_1) := (bkC HA1.out.box 1).trans rfl; have b2 : w1.cell? ⟨w.heap.size, 2, none⟩ = some (.bool a1_2) := (bkC HA1.out.box 2).trans rfl; have b3 : w1.cell? ⟨w.heap.size, 3, none⟩ = some (.bool a1_3) := (bkC HA1.out.box 3).trans rfl; have b4 : w1.cell? ⟨w.heap.size, 4, none⟩ = some (.bool a1_4) := (bkC HA1.out.box 4).trans rfl; have b5 : w1.cell? ⟨w.heap.size, 5, none⟩ = some (.string a1_5) := (bkC HA1.out.box 5).trans rfl; have c0 := cellS59_0 HA1.out.st.1; have f0 := bkF HA1.out.st.1 0; have c1 := cellS59_1 HA1.out.st.1; have f1 := bkF HA1.out.st.1 1; have c2 := cellS59_2 HA1.out.st.1; have f2 := bkF HA1.out.st.1 2)
  | (go_at_call 38; refine (bodkinref19_prefix.calls k a1_0 a1_1 a1_2 a1_3 a1_4 a1_5 p _ HP.out).mono ?_; rintro e w2 ⟨rfl, hB2⟩; have HA2 := aM (HA1.out.quiet hB2); clear hB2 HA1 HP; clear b0 b1 b2 b3 b4 b5 c0 f0 c1 f1 c2 f2; have b0 : w2.cell? ⟨w.heap.size, 0, none⟩ = some (.int .i64 a1_0) := (bkC HA2.out.box 0).trans rfl; have b1 : w2.cell? ⟨w.heap.size, 1, none⟩ = some (.int .i32 a1_1) := (bkC HA2.out.box 1).trans rfl; have b2 : w2.cell? ⟨w.heap.size, 2, none⟩ = some (.bool a1_2) := (bkC HA2.out.box 2).trans rfl; have b3 : w2.cell? ⟨w.heap.size, 3, none⟩ = some (.bool a1_3) := (bkC HA2.out.box 3).trans rfl; have b4 : w2.cell? ⟨w.heap.size, 4, none⟩ = some (.bool a1_4) := (bkC HA2.out.box 4).trans rfl; have b5 : w2.cell? ⟨w.heap.size, 5, none⟩ = some (.string a1_5) := (bkC HA2.out.box 5).trans rfl; have c0 := cellS59_0 HA2.out.st.1; have f0 := bkF HA2.out.st.1 0; have c1 := cellS59_1 HA2.out.st.1; have f1 := bkF HA2.out.st.1 1; have c2 := cellS59_2 HA2.out.st.1; have f2 := bkF HA2.out.st.1 2; have d0 : w2.cell? ⟨w.heap.size + 1, 0, none⟩ = some (.int .i64 0) := (bkC HA2.out.res 0).trans rfl; have e0 := bkF HA2.out.res 0; have d1 : w2.cell? ⟨w.heap.size + 1, 1, none⟩ = some (.int .i64 0) := (bkC HA2.out.res 1).trans rfl; have e1 := bkF HA2.out.res 1; have d2 : w2.cell? ⟨w.heap.size + 1, 2, none⟩ = some (.string ⟨#[]⟩) := (bkC HA2.out.res 2).trans rfl; have e2 := bkF HA2.out.res 2; have d3 : w2.cell? ⟨w.heap.size + 1, 3, none⟩ = some (.int .u8 0) := (bkC HA2.out.res 3).trans rfl; have e3 := bkF HA2.out.res 3))
 refine bodyPost_ret (results_ct rfl _ _ (w.heap.size + 1) 36 #[.int .i64 0, .int .i64 0, .string ⟨#[]⟩, .int .u8 0] (0, 0) _ rfl ?_ Try.underlying36 rfl (by kernel_rfl)) rfl ?_
 ·exact (bkU (cs := #[.int .i64 0, .int .i64 0, .string ⟨#[]⟩, .int .u8 0]) (bkU (cs := #[.int .i64 0, .int .i64 0, .string ⟨#[]⟩, .int .u8 0]) (bkU (cs := #[.int .i64 0, .int .i64 0, .string ⟨#[]⟩, .int .u8 0]) (bkU (cs := #[.int .i64 0, .int .i64 0, .string ⟨#[]⟩, .int .u8 0]) (bkR HA2.out.res hne2' _) 0 _ rfl) 1 _ rfl) 2 _ rfl) 3 _ rfl)
 refine ⟨rfl, ?_, ?_, ?_⟩
 ·exact IsS59.far (IsS59.far (IsS59.far (IsS59.far (HA2.out.st.set_0 _) hne2 _) hne2 _) hne2 _) hne2 _
 ·have hz : w0.heap.size ≤ w.heap.size + 1 := by have := HBS.out; omega
  exact bwS (bwS (bwS (bwS (bwS HA2.out.bel hge.out) hz) hz) hz) hz
 have hz : w.heap.size ≤ w.heap.size + 1 := by omega
 exact keep_far (keep_far (keep_far (keep_far (HA2.out.keep.set_ _ _) hz _) hz _) hz _) hz _

set_option maxHeartbeats 1000000 in
set_option maxRecDepth 100000 in
theorem rkey_single (k : Nat) (g : Nat) (s0_0 : ByteArray) (s0_1 : Int) (s0_2 : Bool) (a1_0 : Int) (a1_1 : Int) (a1_2 : Bool) (a1_3 : Bool) (a1_4 : Bool) (a1_5 : ByteArray) (p : ByteArray) (r1 r2 : Int) (r3 : ByteArray) (r4 : Int) (n1 : Int) (n2 : Bool) (w0 w : World) (hI : IsS59 w0 w g s0_0 s0_1 s0_2) (hB : Below w0.heap.size w0 w) (he : (s0_0.toList == ([] : List UInt8)) = true) (he' : (s0_0.toList != ([] : List UInt8)) = false) (h : bodkinref19_digit.f a1_0 a1_1 a1_2 a1_3 a1_4 a1_5 s0_2 = some false) (hp : bodkinref19_prefix.f k a1_0 a1_1 a1_2 a1_3 a1_4 a1_5 = some p) (hp0 : (p.toList == ([] : List UInt8)) = true) (hp1 : (p.toList != ([] : List UInt8)) = false) (hc : bodkinref19_single.f k a1_0 a1_1 a1_2 a1_3 a1_4 a1_5 = some (r1, r2, r3, r4)) (hn : bodkinref19_Binder_Count.f p s0_1 s0_2 = some (n1, n2, p, s0_1, s0_2)) (hr : (r1 == 37) = false) :
    Calls Try.prog 29 #[.pointer (some ⟨g, 0, none⟩), .agg #[.int .i64 a1_0, .int .i32 a1_1, .bool a1_2, .bool a1_3, .bool a1_4, .string a1_5]] w fun e w' => e = .returned (.tuple #[.agg #[.int .i64 r1, .int .i64 n1, .string r3, .int .u8 r4], .bool true]) ∧ IsS59 w0 w' g ⟨#[]⟩ 0 false ∧ Below w0.heap.size w0 w' ∧ KeepBut w w' g none := by
 have HS0 := aM hI.1
 have hlt := aM hI.lt
 have hge := aM hI.ge
 have HA := aM (RKeyAt.start (a1_0 := a1_0) (a1_1 := a1_1) (a1_2 := a1_2) (a1_3 := a1_3) (a1_4 := a1_4) (a1_5 := a1_5) hI hB)
 have HBS := aM hB.size
 clear hI hB
 have HD := aM h
 have HP := aM hp
 have HC := aM hc
 have HN := aM hn
 clear h hp hc hn
 have hne1 : g ≠ w.heap.size := by have := hlt.out; omega
 have hne2 : g ≠ w.heap.size + 1 := by have := hlt.out; omega
 have hne1' : w.heap.size ≠ g := by have := hlt.out; omega
 have hne2' : w.heap.size + 1 ≠ g := by have := hlt.out; omega
 have hst : ∀ o1 o2 : Obj, ((w.alloc o1).alloc o2).heap[g]? = some (.cells #[.string s0_0, .int .i64 s0_1, .bool s0_2] 59 (0, 0)) := fun o1 o2 => bkA (bkA HS0.out _) _
 have z0 : ∀ o1 o2 : Obj, ((w.alloc o1).alloc o2).cell? ⟨g, 0, none⟩ = some (.string s0_0) := fun o1 o2 => (bkC (hst o1 o2) 0).trans rfl
 clear hst
 go_enter Try.func29, Try.ntmps29
 go_wp2
 refine wp_region_still_tail 5 (by kernel_rfl) (by kernel_rfl) ?_
 simp only [List.take_succ_cons, List.take_zero, List.drop_succ_cons, List.drop_zero]
 change wpStill _ _ (World.drew ((w.alloc (.cells #[.int .i64 a1_0, .int .i32 a1_1, .bool a1_2, .bool a1_3, .bool a1_4, .string a1_5] 25)).alloc (.cells #[.int .i64 0, .int .i64 0, .string ⟨#[]⟩, .int .u8 0] 36))) (fun a' => wpList _ _ _ _ a' (World.drew ((w.alloc (.cells #[.int .i64 a1_0, .int .i32 a1_1, .bool a1_2, .bool a1_3, .bool a1_4, .string a1_5] 25)).alloc (.cells #[.int .i64 0, .int .i64 0, .string ⟨#[]⟩, .int .u8 0] 36)))) _ _
 have hAT : RKeyAt w0 w (World.drew ((w.alloc (.cells #[.int .i64 a1_0, .int .i32 a1_1, .bool a1_2, .bool a1_3, .bool a1_4, .string a1_5] 25)).alloc (.cells #[.int .i64 0, .int .i64 0, .string ⟨#[]⟩, .int .u8 0] 36))) g s0_0 s0_1 s0_2 a1_0 a1_1 a1_2 a1_3 a1_4 a1_5 := HA.1.quiet (Below.refl _ _).drew
 generalize World.drew ((w.alloc (.cells #[.int .i64 a1_0, .int .i32 a1_1, .bool a1_2, .bool a1_3, .bool a1_4, .string a1_5] 25)).alloc (.cells #[.int .i64 0, .int .i64 0, .string ⟨#[]⟩, .int .u8 0] 36)) = wT at hAT ⊢
 have HAT := aM hAT
 clear hAT z0 HA
 have b0 : wT.cell? ⟨w.heap.size, 0, none⟩ = some (.int .i64 a1_0) := (bkC HAT.out.box 0).trans rfl
 have b1 : wT.cell? ⟨w.heap.size, 1, none⟩ = some (.int .i32 a1_1) := (bkC HAT.out.box 1).trans rfl
 have b2 : wT.cell? ⟨w.heap.size, 2, none⟩ = some (.bool a1_2) := (bkC HAT.out.box 2).trans rfl
 have b3 : wT.cell? ⟨w.heap.size, 3, none⟩ = some (.bool a1_3) := (bkC HAT.out.box 3).trans rfl
 have b4 : wT.cell? ⟨w.heap.size, 4, none⟩ = some (.bool a1_4) := (bkC HAT.out.box 4).trans rfl
 have b5 : wT.cell? ⟨w.heap.size, 5, none⟩ = some (.string a1_5) := (bkC HAT.out.box 5).trans rfl
 have c0 := cellS59_0 HAT.out.st.1
 have f0 := bkF HAT.out.st.1 0
 have c1 := cellS59_1 HAT.out.st.1
 have f1 := bkF HAT.out.st.1 1
 have c2 := cellS59_2 HAT.out.st.1
 have f2 := bkF HAT.out.st.1 2
 repeat still_step
 refine wpStill_nil ?_
 go_wp2_with (first
  | (go_at_call 37; refine (bodkinref19_digit.calls a1_0 a1_1 a1_2 a1_3 a1_4 a1_5 s0_2 false _ HD.out).mono ?_; rintro e w1 ⟨rfl, hB2⟩; have HA1 := aM (HAT.out.quiet hB2); clear hB2 HAT HD; clear b0 b1 b2 b3 b4 b5 c0 f0 c1 f1 c2 f2; have b0 : w1.cell? ⟨w.heap.size, 0, none⟩ = some (.int .i64 a1_0) := (bkC HA1.out.box 0).trans rfl; have b1 : w1.cell? ⟨w.heap.size, 1, none⟩ = some (.int .i32 a1_1) := (bkC HA1.out.box 1).trans rfl; have b2 : w1.cell? ⟨w.heap.size, 2, none⟩ = some (.bool a1_2) := (bkC HA1.out.box 2).trans rfl; have b3 : w1.cell? ⟨w.heap.size, 3, none⟩ = some (.bool a1_3) := (bkC HA1.out.box 3).trans rfl; have b4 : w1.cell? ⟨w.heap.size, 4, none⟩ = some (.bool a1_4) := (bkC HA1.out.box 4).trans rfl; have b5 : w1.cell? ⟨w.heap.size, 5, none⟩ = some (.string a1_5) := (bkC HA1.out.box 5).trans rfl; have c0 := cellS59_0 HA1.out.st.1; have f0 := bkF HA1.out.st.1 0; have c1 := cellS59_1 HA1.out.st.1; have f1 := bkF HA1.out.st.1 1; have c2 := cellS59_2 HA1.out.st.1; have f2 := bkF HA1.out.st.1 2)
  | (go_at_call 38; refine (bodkinref19_prefix.calls k a1_0 a1_1 a1_2 a1_3 a1_4 a1_5 p _ HP.out).mono ?_; rintro e w2 ⟨rfl, hB2⟩; have HA2 := aM (HA1.out.quiet hB2); clear hB2 HA1 HP; clear b0 b1 b2 b3 b4 b5 c0 f0 c1 f1 c2 f2; have b0 : w2.cell? ⟨w.heap.size, 0, none⟩ = some (.int .i64 a1_0) := (bkC HA2.out.box 0).trans rfl; have b1 : w2.cell? ⟨w.heap.size, 1, none⟩ = some (.int .i32 a1_1) := (bkC HA2.out.box 1).trans rfl; have b2 : w2.cell? ⟨w.heap.size, 2, none⟩ = some (.bool a1_2) := (bkC HA2.out.box 2).trans rfl; have b3 : w2.cell? ⟨w.heap.size, 3, none⟩ = some (.bool a1_3) := (bkC HA2.out.box 3).trans rfl; have b4 : w2.cell? ⟨w.heap.size, 4, none⟩ = some (.bool a1_4) := (bkC HA2.out.box 4).trans rfl; have b5 : w2.cell? ⟨w.heap.size, 5, none⟩ = some (.string a1_5) := (bkC HA2.out.box 5).trans rfl; have c0 := cellS59_0 HA2.out.st.1; have f0 := bkF HA2.out.st.1 0; have c1 := cellS59_1 HA2.out.st.1; have f1 := bkF HA2.out.st.1 1; have c2 := cellS59_2 HA2.out.st.1; have f2 := bkF HA2.out.st.1 2; have d0 : w2.cell? ⟨w.heap.size + 1, 0, none⟩ = some (.int .i64 0) := (bkC HA2.out.res 0).trans rfl; have e0 := bkF HA2.out.res 0; have d1 : w2.cell? ⟨w.heap.size + 1, 1, none⟩ = some (.int .i64 0) := (bkC HA2.out.res 1).trans rfl; have e1 := bkF HA2.out.res 1; have d2 : w2.cell? ⟨w.heap.size + 1, 2, none⟩ = some (.string ⟨#[]⟩) := (bkC HA2.out.res 2).trans rfl; have e2 := bkF HA2.out.res 2; have d3 : w2.cell? ⟨w.heap.size + 1, 3, none⟩ = some (.int .u8 0) := (bkC HA2.out.res 3).trans rfl; have e3 := bkF HA2.out.res 3; have HAs := aM (HA2.out.set0 hlt.out p); have p0 := fun (o : Obj) => (World.cell?_alloc_lt (w2.setCell ⟨g, 0, none⟩ (.string p)) o ⟨g, 0, none⟩ HAs.out.st.lt).trans (cellS59_0 HAs.out.st.1); have q0 : ∀ (o : Obj), (World.alloc (w2.setCell ⟨g, 0, none⟩ (.string p)) o).cell? ⟨w.heap.size, 0, none⟩ = some (.int .i64 a1_0) := fun (o : Obj) => (World.cell?_alloc_lt (w2.setCell ⟨g, 0, none⟩ (.string p)) o ⟨w.heap.size, 0, none⟩ (bkL HAs.out.box)).trans ((bkC HAs.out.box 0).trans rfl); have q1 : ∀ (o : Obj), (World.alloc (w2.setCell ⟨g, 0, none⟩ (.string p)) o).cell? ⟨w.heap.size, 1, none⟩ = some (.int .i32 a1_1) := fun (o : Obj) => (World.cell?_alloc_lt (w2.setCell ⟨g, 0, none⟩ (.string p)) o ⟨w.heap.size, 1, none⟩ (bkL HAs.out.box)).trans ((bkC HAs.out.box 1).trans rfl); have q2 : ∀ (o : Obj), (World.alloc (w2.setCell ⟨g, 0, none⟩ (.string p)) o).cell? ⟨w.heap.size, 2, none⟩ = some (.bool a1_2) := fun (o : Obj) => (World.cell?_alloc_lt (w2.setCell ⟨g, 0, none⟩ (.string p)) o ⟨w.heap.size, 2, none⟩ (bkL HAs.out.box)).trans ((bkC HAs.out.box 2).trans rfl); have q3 : ∀ (o : Obj), (World.alloc (w2.setCell ⟨g, 0, none⟩ (.string p)) o).cell? ⟨w.heap.size, 3, none⟩ = some (.bool a1_3) := fun (o : Obj) => (World.cell?_alloc_lt (w2.setCell ⟨g, 0, none⟩ (.string p)) o ⟨w.heap.size, 3, none⟩ (bkL HAs.out.box)).trans ((bkC HAs.out.box 3).trans rfl); have q4 : ∀ (o : Obj), (World.alloc (w2.setCell ⟨g, 0, none⟩ (.string p)) o).cell? ⟨w.heap.size, 4, none⟩ = some (.bool a1_4) := fun (o : Obj) => (World.cell?_alloc_lt (w2.setCell ⟨g, 0, none⟩ (.string p)) o ⟨w.heap.size, 4, none⟩ (bkL HAs.out.box)).trans ((bkC HAs.out.box 4).trans rfl); have q5 : ∀ (o : Obj), (World.alloc (w2.setCell ⟨g, 0, none⟩ (.string p)) o).cell? ⟨w.heap.size, 5, none⟩ = some (.string a1_5) := fun (o : Obj) => (World.cell?_alloc_lt (w2.setCell ⟨g, 0, none⟩ (.string p)) o ⟨w.heap.size, 5, none⟩ (bkL HAs.out.box)).trans ((bkC HAs.out.box 5).trans rfl); have hn3 : g ≠ w2.heap.size := Nat.ne_of_lt HA2.out.st.lt; have hn3' : w2.heap.size ≠ g := Nat.ne_of_gt HA2.out.st.lt; have hn5 : w.heap.size ≠ w2.heap.size := Nat.ne_of_lt (bkL HA2.out.box); have hn6 : w.heap.size + 1 ≠ w2.heap.size := Nat.ne_of_lt (bkL HA2.out.res); have hbw := aM (show w0.heap.size ≤ w2.heap.size from HA2.out.bel.size); have hbk := aM (show w.heap.size ≤ w2.heap.size from HA2.out.keep.1); clear d0 e0 d1 e1 d2 e2 d3 e3)
  | (go_at_call 39; refine (bodkinref19_single.calls k a1_0 a1_1 a1_2 a1_3 a1_4 a1_5 r1 r2 r3 r4 _ HC.out).mono ?_; rintro e w4 ⟨rfl, hB2⟩; have HX := aM (bkB (new_at _) hB2); have HA4 := aM ((HAs.out.quiet ((Below.refl _ _).alloc (Nat.le_refl _) _)).quiet hB2); clear hB2 HC; clear p0 q0 q1 q2 q3 q4 q5; have b0 : w4.cell? ⟨w.heap.size, 0, none⟩ = some (.int .i64 a1_0) := (bkC HA4.out.box 0).trans rfl; have b1 : w4.cell? ⟨w.heap.size, 1, none⟩ = some (.int .i32 a1_1) := (bkC HA4.out.box 1).trans rfl; have b2 : w4.cell? ⟨w.heap.size, 2, none⟩ = some (.bool a1_2) := (bkC HA4.out.box 2).trans rfl; have b3 : w4.cell? ⟨w.heap.size, 3, none⟩ = some (.bool a1_3) := (bkC HA4.out.box 3).trans rfl; have b4 : w4.cell? ⟨w.heap.size, 4, none⟩ = some (.bool a1_4) := (bkC HA4.out.box 4).trans rfl; have b5 : w4.cell? ⟨w.heap.size, 5, none⟩ = some (.string a1_5) := (bkC HA4.out.box 5).trans rfl; have c0 := cellS59_0 HA4.out.st.1; have f0 := bkF HA4.out.st.1 0; have c1 := cellS59_1 HA4.out.st.1; have f1 := bkF HA4.out.st.1 1; have c2 := cellS59_2 HA4.out.st.1; have f2 := bkF HA4.out.st.1 2; have x0 : w4.cell? ⟨w2.heap.size, 0, none⟩ = some (.int .i64 0) := (bkC HX.out 0).trans rfl; have y0 := bkF HX.out 0; have x1 : w4.cell? ⟨w2.heap.size, 1, none⟩ = some (.int .i64 0) := (bkC HX.out 1).trans rfl; have y1 := bkF HX.out 1; have x2 : w4.cell? ⟨w2.heap.size, 2, none⟩ = some (.string ⟨#[]⟩) := (bkC HX.out 2).trans rfl; have y2 := bkF HX.out 2; have x3 : w4.cell? ⟨w2.heap.size, 3, none⟩ = some (.int .u8 0) := (bkC HX.out 3).trans rfl; have y3 := bkF HX.out 3)
  | (go_at_call 35; refine (bodkinref19_Binder_Count.calls g p s0_1 s0_2 n1 n2 p s0_1 s0_2 w0 _ (by repeat (first | with_reducible exact HA4.out.st | refine IsS59.far ?_ hn3 _)) (by repeat (first | with_reducible exact HA4.out.bel | refine bwS ?_ hbw.out)) HN.out).mono ?_; rintro e w5 ⟨rfl, hI5, hB5, hK5⟩; have HX5 := aM (hK5.blk (g' := w2.heap.size) (show _ = some (Obj.cells #[.int .i64 r1, .int .i64 r2, .string r3, .int .u8 r4] 36 (0, 0)) from (bkU (cs := #[.int .i64 r1, .int .i64 r2, .string r3, .int .u8 0]) (bkU (cs := #[.int .i64 r1, .int .i64 r2, .string ⟨#[]⟩, .int .u8 0]) (bkU (cs := #[.int .i64 r1, .int .i64 0, .string ⟨#[]⟩, .int .u8 0]) (bkU (cs := #[.int .i64 0, .int .i64 0, .string ⟨#[]⟩, .int .u8 0]) HX.out 0 _ rfl) 1 _ rfl) 2 _ rfl) 3 _ rfl)) hn3' (by simp)); have HA5 := aM ((RKeyAt.four HA4.out hbw.out hbk.out hn3 hn5 hn6 _ _ _ _).call hlt.out hI5 hB5 hK5); clear hI5 hB5 hK5 HN HX; have HX := HX5; clear HX5; clear b0 b1 b2 b3 b4 b5 c0 f0 c1 f1 c2 f2; clear x0 y0 x1 y1 x2 y2 x3 y3; have b0 : w5.cell? ⟨w.heap.size, 0, none⟩ = some (.int .i64 a1_0) := (bkC HA5.out.box 0).trans rfl; have b1 : w5.cell? ⟨w.heap.size, 1, none⟩ = some (.int .i32 a1_1) := (bkC HA5.out.box 1).trans rfl; have b2 : w5.cell? ⟨w.heap.size, 2, none⟩ = some (.bool a1_2) := (bkC HA5.out.box 2).trans rfl; have b3 : w5.cell? ⟨w.heap.size, 3, none⟩ = some (.bool a1_3) := (bkC HA5.out.box 3).trans rfl; have b4 : w5.cell? ⟨w.heap.size, 4, none⟩ = some (.bool a1_4) := (bkC HA5.out.box 4).trans rfl; have b5 : w5.cell? ⟨w.heap.size, 5, none⟩ = some (.string a1_5) := (bkC HA5.out.box 5).trans rfl; have c0 := cellS59_0 HA5.out.st.1; have f0 := bkF HA5.out.st.1 0; have c1 := cellS59_1 HA5.out.st.1; have f1 := bkF HA5.out.st.1 1; have c2 := cellS59_2 HA5.out.st.1; have f2 := bkF HA5.out.st.1 2; have x0 : w5.cell? ⟨w2.heap.size, 0, none⟩ = some (.int .i64 r1) := (bkC HX.out 0).trans rfl; have y0 := bkF HX.out 0; have x1 : w5.cell? ⟨w2.heap.size, 1, none⟩ = some (.int .i64 r2) := (bkC HX.out 1).trans rfl; have y1 := bkF HX.out 1; have x2 : w5.cell? ⟨w2.heap.size, 2, none⟩ = some (.string r3) := (bkC HX.out 2).trans rfl; have y2 := bkF HX.out 2; have x3 : w5.cell? ⟨w2.heap.size, 3, none⟩ = some (.int .u8 r4) := (bkC HX.out 3).trans rfl; have y3 := bkF HX.out 3)
  | (go_at_call 42; refine (bodkinref19_Binder_Reset.calls g p s0_1 s0_2 ⟨#[]⟩ 0 false w0 _ (IsS59.far HA5.out.st hn3 _) (bwS HA5.out.bel hbw.out) rfl).mono ?_; rintro e w6 ⟨rfl, hI5, hB5, hK5⟩; have HX6 := aM (hK5.blk (g' := w2.heap.size) (show _ = some (Obj.cells #[.int .i64 r1, .int .i64 n1, .string r3, .int .u8 r4] 36 (0, 0)) from (bkU (cs := #[.int .i64 r1, .int .i64 r2, .string r3, .int .u8 r4]) HX.out 1 _ rfl)) hn3' (by simp)); have HA6 := aM (((RKeyAt.far HA5.out hbw.out hbk.out hn3 hn5 hn6 _ _)).call hlt.out hI5 hB5 hK5); clear hI5 hB5 hK5 HX; have HX := HX6; clear HX6; clear b0 b1 b2 b3 b4 b5 c0 f0 c1 f1 c2 f2; clear x0 y0 x1 y1 x2 y2 x3 y3; have b0 : w6.cell? ⟨w.heap.size, 0, none⟩ = some (.int .i64 a1_0) := (bkC HA6.out.box 0).trans rfl; have b1 : w6.cell? ⟨w.heap.size, 1, none⟩ = some (.int .i32 a1_1) := (bkC HA6.out.box 1).trans rfl; have b2 : w6.cell? ⟨w.heap.size, 2, none⟩ = some (.bool a1_2) := (bkC HA6.out.box 2).trans rfl; have b3 : w6.cell? ⟨w.heap.size, 3, none⟩ = some (.bool a1_3) := (bkC HA6.out.box 3).trans rfl; have b4 : w6.cell? ⟨w.heap.size, 4, none⟩ = some (.bool a1_4) := (bkC HA6.out.box 4).trans rfl; have b5 : w6.cell? ⟨w.heap.size, 5, none⟩ = some (.string a1_5) := (bkC HA6.out.box 5).trans rfl; have c0 := cellS59_0 HA6.out.st.1; have f0 := bkF HA6.out.st.1 0; have c1 := cellS59_1 HA6.out.st.1; have f1 := bkF HA6.out.st.1 1; have c2 := cellS59_2 HA6.out.st.1; have f2 := bkF HA6.out.st.1 2; have x0 : w6.cell? ⟨w2.heap.size, 0, none⟩ = some (.int .i64 r1) := (bkC HX.out 0).trans rfl; have y0 := bkF HX.out 0; have x1 : w6.cell? ⟨w2.heap.size, 1, none⟩ = some (.int .i64 n1) := (bkC HX.out 1).trans rfl; have y1 := bkF HX.out 1; have x2 : w6.cell? ⟨w2.heap.size, 2, none⟩ = some (.string r3) := (bkC HX.out 2).trans rfl; have y2 := bkF HX.out 2; have x3 : w6.cell? ⟨w2.heap.size, 3, none⟩ = some (.int .u8 r4) := (bkC HX.out 3).trans rfl; have y3 := bkF HX.out 3; have d0 : w6.cell? ⟨w.heap.size + 1, 0, none⟩ = some (.int .i64 0) := (bkC HA6.out.res 0).trans rfl; have e0 := bkF HA6.out.res 0; have d1 : w6.cell? ⟨w.heap.size + 1, 1, none⟩ = some (.int .i64 0) := (bkC HA6.out.res 1).trans rfl; have e1 := bkF HA6.out.res 1; have d2 : w6.cell? ⟨w.heap.size + 1, 2, none⟩ = some (.string ⟨#[]⟩) := (bkC HA6.out.res 2).trans rfl; have e2 := bkF HA6.out.res 2; have d3 : w6.cell? ⟨w.heap.size + 1, 3, none⟩ = some (.int .u8 0) := (bkC HA6.out.res 3).trans rfl; have e3 := bkF HA6.out.res 3))
 refine bodyPost_ret (results_ct rfl _ _ (w.heap.size + 1) 36 #[.int .i64 r1, .int .i64 n1, .string r3, .int .u8 r4] (0, 0) _ rfl ?_ Try.underlying36 rfl (by kernel_rfl)) rfl ?_
 ·exact (bkU (cs := #[.int .i64 r1, .int .i64 n1, .string r3, .int .u8 0]) (bkU (cs := #[.int .i64 r1, .int .i64 n1, .string ⟨#[]⟩, .int .u8 0]) (bkU (cs := #[.int .i64 r1, .int .i64 0, .string ⟨#[]⟩, .int .u8 0]) (bkU (cs := #[.int .i64 0, .int .i64 0, .string ⟨#[]⟩, .int .u8 0]) HA6.out.res 0 _ rfl) 1 _ rfl) 2 _ rfl) 3 _ rfl)
 refine ⟨rfl, ?_, ?_, ?_⟩
 ·exact IsS59.far (IsS59.far (IsS59.far (IsS59.far HA6.out.st hne2 _) hne2 _) hne2 _) hne2 _
 ·have hz : w0.heap.size ≤ w.heap.size + 1 := by have := HBS.out; omega
  exact bwS (bwS (bwS (bwS HA6.out.bel hz) hz) hz) hz
 have hz : w.heap.size ≤ w.heap.size + 1 := by omega
 exact keep_far (keep_far (keep_far (keep_far HA6.out.keep hz _) hz _) hz _) hz _

set_option maxHeartbeats 1000000 in
set_option maxRecDepth 100000 in
theorem rkey_single_abort (k : Nat) (g : Nat) (s0_0 : ByteArray) (s0_1 : Int) (s0_2 : Bool) (a1_0 : Int) (a1_1 : Int) (a1_2 : Bool) (a1_3 : Bool) (a1_4 : Bool) (a1_5 : ByteArray) (p : ByteArray) (r1 r2 : Int) (r3 : ByteArray) (r4 : Int) (n1 : Int) (n2 : Bool) (w0 w : World) (hI : IsS59 w0 w g s0_0 s0_1 s0_2) (hB : Below w0.heap.size w0 w) (he : (s0_0.toList == ([] : List UInt8)) = true) (he' : (s0_0.toList != ([] : List UInt8)) = false) (h : bodkinref19_digit.f a1_0 a1_1 a1_2 a1_3 a1_4 a1_5 s0_2 = some false) (hp : bodkinref19_prefix.f k a1_0 a1_1 a1_2 a1_3 a1_4 a1_5 = some p) (hp0 : (p.toList == ([] : List UInt8)) = true) (hp1 : (p.toList != ([] : List UInt8)) = false) (hc : bodkinref19_single.f k a1_0 a1_1 a1_2 a1_3 a1_4 a1_5 = some (r1, r2, r3, r4)) (hn : bodkinref19_Binder_Count.f p s0_1 s0_2 = some (n1, n2, p, s0_1, s0_2)) (hr : (r1 == 37) = true) :
    Calls Try.prog 29 #[.pointer (some ⟨g, 0, none⟩), .agg #[.int .i64 a1_0, .int .i32 a1_1, .bool a1_2, .bool a1_3, .bool a1_4, .string a1_5]] w fun e w' => e = .returned (.tuple #[.agg #[.int .i64 r1, .int .i64 1, .string r3, .int .u8 r4], .bool true]) ∧ IsS59 w0 w' g ⟨#[]⟩ 0 false ∧ Below w0.heap.size w0 w' ∧ KeepBut w w' g none := by
 have HS0 := aM hI.1
 have hlt := aM hI.lt
 have hge := aM hI.ge
 have HA := aM (RKeyAt.start (a1_0 := a1_0) (a1_1 := a1_1) (a1_2 := a1_2) (a1_3 := a1_3) (a1_4 := a1_4) (a1_5 := a1_5) hI hB)
 have HBS := aM hB.size
 clear hI hB
 have HD := aM h
 have HP := aM hp
 have HC := aM hc
 have HN := aM hn
 clear h hp hc hn
 have hne1 : g ≠ w.heap.size := by have := hlt.out; omega
 have hne2 : g ≠ w.heap.size + 1 := by have := hlt.out; omega
 have hne1' : w.heap.size ≠ g := by have := hlt.out; omega
 have hne2' : w.heap.size + 1 ≠ g := by have := hlt.out; omega
 have hst : ∀ o1 o2 : Obj, ((w.alloc o1).alloc o2).heap[g]? = some (.cells #[.string s0_0, .int .i64 s0_1, .bool s0_2] 59 (0, 0)) := fun o1 o2 => bkA (bkA HS0.out _) _
 have z0 : ∀ o1 o2 : Obj, ((w.alloc o1).alloc o2).cell? ⟨g, 0, none⟩ = some (.string s0_0) := fun o1 o2 => (bkC (hst o1 o2) 0).trans rfl
 clear hst
 go_enter Try.func29, Try.ntmps29
 go_wp2
 refine wp_region_still_tail 5 (by kernel_rfl) (by kernel_rfl) ?_
 simp only [List.take_succ_cons, List.take_zero, List.drop_succ_cons, List.drop_zero]
 change wpStill _ _ (World.drew ((w.alloc (.cells #[.int .i64 a1_0, .int .i32 a1_1, .bool a1_2, .bool a1_3, .bool a1_4, .string a1_5] 25)).alloc (.cells #[.int .i64 0, .int .i64 0, .string ⟨#[]⟩, .int .u8 0] 36))) (fun a' => wpList _ _ _ _ a' (World.drew ((w.alloc (.cells #[.int .i64 a1_0, .int .i32 a1_1, .bool a1_2, .bool a1_3, .bool a1_4, .string a1_5] 25)).alloc (.cells #[.int .i64 0, .int .i64 0, .string ⟨#[]⟩, .int .u8 0] 36)))) _ _
 have hAT : RKeyAt w0 w (World.drew ((w.alloc (.cells #[.int .i64 a1_0, .int .i32 a1_1, .bool a1_2, .bool a1_3, .bool a1_4, .string a1_5] 25)).alloc (.cells #[.int .i64 0, .int .i64 0, .string ⟨#[]⟩, .int .u8 0] 36))) g s0_0 s0_1 s0_2 a1_0 a1_1 a1_2 a1_3 a1_4 a1_5 := HA.1.quiet (Below.refl _ _).drew
 generalize World.drew ((w.alloc (.cells #[.int .i64 a1_0, .int .i32 a1_1, .bool a1_2, .bool a1_3, .bool a1_4, .string a1_5] 25)).alloc (.cells #[.int .i64 0, .int .i64 0, .string ⟨#[]⟩, .int .u8 0] 36)) = wT at hAT ⊢
 have HAT := aM hAT
 clear hAT z0 HA
 have b0 : wT.cell? ⟨w.heap.size, 0, none⟩ = some (.int .i64 a1_0) := (bkC HAT.out.box 0).trans rfl
 have b1 : wT.cell? ⟨w.heap.size, 1, none⟩ = some (.int .i32 a1_1) := (bkC HAT.out.box 1).trans rfl
 have b2 : wT.cell? ⟨w.heap.size, 2, none⟩ = some (.bool a1_2) := (bkC HAT.out.box 2).trans rfl
 have b3 : wT.cell? ⟨w.heap.size, 3, none⟩ = some (.bool a1_3) := (bkC HAT.out.box 3).trans rfl
 have b4 : wT.cell? ⟨w.heap.size, 4, none⟩ = some (.bool a1_4) := (bkC HAT.out.box 4).trans rfl
 have b5 : wT.cell? ⟨w.heap.size, 5, none⟩ = some (.string a1_5) := (bkC HAT.out.box 5).trans rfl
 have c0 := cellS59_0 HAT.out.st.1
 have f0 := bkF HAT.out.st.1 0
 have c1 := cellS59_1 HAT.out.st.1
 have f1 := bkF HAT.out.st.1 1
 have c2 := cellS59_2 HAT.out.st.1
 have f2 := bkF HAT.out.st.1 2
 repeat still_step
 refine wpStill_nil ?_
 go_wp2_with (first
  | (go_at_call 37; refine (bodkinref19_digit.calls a1_0 a1_1 a1_2 a1_3 a1_4 a1_5 s0_2 false _ HD.out).mono ?_; rintro e w1 ⟨rfl, hB2⟩; have HA1 := aM (HAT.out.quiet hB2); clear hB2 HAT HD; clear b0 b1 b2 b3 b4 b5 c0 f0 c1 f1 c2 f2; have b0 : w1.cell? ⟨w.heap.size, 0, none⟩ = some (.int .i64 a1_0) := (bkC HA1.out.box 0).trans rfl; have b1 : w1.cell? ⟨w.heap.size, 1, none⟩ = some (.int .i32 a1_1) := (bkC HA1.out.box 1).trans rfl; have b2 : w1.cell? ⟨w.heap.size, 2, none⟩ = some (.bool a1_2) := (bkC HA1.out.box 2).trans rfl; have b3 : w1.cell? ⟨w.heap.size, 3, none⟩ = some (.bool a1_3) := (bkC HA1.out.box 3).trans rfl; have b4 : w1.cell? ⟨w.heap.size, 4, none⟩ = some (.bool a1_4) := (bkC HA1.out.box 4).trans rfl; have b5 : w1.cell? ⟨w.heap.size, 5, none⟩ = some (.string a1_5) := (bkC HA1.out.box 5).trans rfl; have c0 := cellS59_0 HA1.out.st.1; have f0 := bkF HA1.out.st.1 0; have c1 := cellS59_1 HA1.out.st.1; have f1 := bkF HA1.out.st.1 1; have c2 := cellS59_2 HA1.out.st.1; have f2 := bkF HA1.out.st.1 2)
  | (go_at_call 38; refine (bodkinref19_prefix.calls k a1_0 a1_1 a1_2 a1_3 a1_4 a1_5 p _ HP.out).mono ?_; rintro e w2 ⟨rfl, hB2⟩; have HA2 := aM (HA1.out.quiet hB2); clear hB2 HA1 HP; clear b0 b1 b2 b3 b4 b5 c0 f0 c1 f1 c2 f2; have b0 : w2.cell? ⟨w.heap.size, 0, none⟩ = some (.int .i64 a1_0) := (bkC HA2.out.box 0).trans rfl; have b1 : w2.cell? ⟨w.heap.size, 1, none⟩ = some (.int .i32 a1_1) := (bkC HA2.out.box 1).trans rfl; have b2 : w2.cell? ⟨w.heap.size, 2, none⟩ = some (.bool a1_2) := (bkC HA2.out.box 2).trans rfl; have b3 : w2.cell? ⟨w.heap.size, 3, none⟩ = some (.bool a1_3) := (bkC HA2.out.box 3).trans rfl; have b4 : w2.cell? ⟨w.heap.size, 4, none⟩ = some (.bool a1_4) := (bkC HA2.out.box 4).trans rfl; have b5 : w2.cell? ⟨w.heap.size, 5, none⟩ = some (.string a1_5) := (bkC HA2.out.box 5).trans rfl; have c0 := cellS59_0 HA2.out.st.1; have f0 := bkF HA2.out.st.1 0; have c1 := cellS59_1 HA2.out.st.1; have f1 := bkF HA2.out.st.1 1; have c2 := cellS59_2 HA2.out.st.1; have f2 := bkF HA2.out.st.1 2; have d0 : w2.cell? ⟨w.heap.size + 1, 0, none⟩ = some (.int .i64 0) := (bkC HA2.out.res 0).trans rfl; have e0 := bkF HA2.out.res 0; have d1 : w2.cell? ⟨w.heap.size + 1, 1, none⟩ = some (.int .i64 0) := (bkC HA2.out.res 1).trans rfl; have e1 := bkF HA2.out.res 1; have d2 : w2.cell? ⟨w.heap.size + 1, 2, none⟩ = some (.string ⟨#[]⟩) := (bkC HA2.out.res 2).trans rfl; have e2 := bkF HA2.out.res 2; have d3 : w2.cell? ⟨w.heap.size + 1, 3, none⟩ = some (.int .u8 0) := (bkC HA2.out.res 3).trans rfl; have e3 := bkF HA2.out.res 3; have HAs := aM (HA2.out.set0 hlt.out p); have p0 := fun (o : Obj) => (World.cell?_alloc_lt (w2.setCell ⟨g, 0, none⟩ (.string p)) o ⟨g, 0, none⟩ HAs.out.st.lt).trans (cellS59_0 HAs.out.st.1); have q0 : ∀ (o : Obj), (World.alloc (w2.setCell ⟨g, 0, none⟩ (.string p)) o).cell? ⟨w.heap.size, 0, none⟩ = some (.int .i64 a1_0) := fun (o : Obj) => (World.cell?_alloc_lt (w2.setCell ⟨g, 0, none⟩ (.string p)) o ⟨w.heap.size, 0, none⟩ (bkL HAs.out.box)).trans ((bkC HAs.out.box 0).trans rfl); have q1 : ∀ (o : Obj), (World.alloc (w2.setCell ⟨g, 0, none⟩ (.string p)) o).cell? ⟨w.heap.size, 1, none⟩ = some (.int .i32 a1_1) := fun (o : Obj) => (World.cell?_alloc_lt (w2.setCell ⟨g, 0, none⟩ (.string p)) o ⟨w.heap.size, 1, none⟩ (bkL HAs.out.box)).trans ((bkC HAs.out.box 1).trans rfl); have q2 : ∀ (o : Obj), (World.alloc (w2.setCell ⟨g, 0, none⟩ (.string p)) o).cell? ⟨w.heap.size, 2, none⟩ = some (.bool a1_2) := fun (o : Obj) => (World.cell?_alloc_lt (w2.setCell ⟨g, 0, none⟩ (.string p)) o ⟨w.heap.size, 2, none⟩ (bkL HAs.out.box)).trans ((bkC HAs.out.box 2).trans rfl); have q3 : ∀ (o : Obj), (World.alloc (w2.setCell ⟨g, 0, none⟩ (.string p)) o).cell? ⟨w.heap.size, 3, none⟩ = some (.bool a1_3) := fun (o : Obj) => (World.cell?_alloc_lt (w2.setCell ⟨g, 0, none⟩ (.string p)) o ⟨w.heap.size, 3, none⟩ (bkL HAs.out.box)).trans ((bkC HAs.out.box 3).trans rfl); have q4 : ∀ (o : Obj), (World.alloc (w2.setCell ⟨g, 0, none⟩ (.string p)) o).cell? ⟨w.heap.size, 4, none⟩ = some (.bool a1_4) := fun (o : Obj) => (World.cell?_alloc_lt (w2.setCell ⟨g, 0, none⟩ (.string p)) o ⟨w.heap.size, 4, none⟩ (bkL HAs.out.box)).trans ((bkC HAs.out.box 4).trans rfl); have q5 : ∀ (o : Obj), (World.alloc (w2.setCell ⟨g, 0, none⟩ (.string p)) o).cell? ⟨w.heap.size, 5, none⟩ = some (.string a1_5) := fun (o : Obj) => (World.cell?_alloc_lt (w2.setCell ⟨g, 0, none⟩ (.string p)) o ⟨w.heap.size, 5, none⟩ (bkL HAs.out.box)).trans ((bkC HAs.out.box 5).trans rfl); have hn3 : g ≠ w2.heap.size := Nat.ne_of_lt HA2.out.st.lt; have hn3' : w2.heap.size ≠ g := Nat.ne_of_gt HA2.out.st.lt; have hn5 : w.heap.size ≠ w2.heap.size := Nat.ne_of_lt (bkL HA2.out.box); have hn6 : w.heap.size + 1 ≠ w2.heap.size := Nat.ne_of_lt (bkL HA2.out.res); have hbw := aM (show w0.heap.size ≤ w2.heap.size from HA2.out.bel.size); have hbk := aM (show w.heap.size ≤ w2.heap.size from HA2.out.keep.1); clear d0 e0 d1 e1 d2 e2 d3 e3)
  | (go_at_call 39; refine (bodkinref19_single.calls k a1_0 a1_1 a1_2 a1_3 a1_4 a1_5 r1 r2 r3 r4 _ HC.out).mono ?_; rintro e w4 ⟨rfl, hB2⟩; have HX := aM (bkB (new_at _) hB2); have HA4 := aM ((HAs.out.quiet ((Below.refl _ _).alloc (Nat.le_refl _) _)).quiet hB2); clear hB2 HC; clear p0 q0 q1 q2 q3 q4 q5; have b0 : w4.cell? ⟨w.heap.size, 0, none⟩ = some (.int .i64 a1_0) := (bkC HA4.out.box 0).trans rfl; have b1 : w4.cell? ⟨w.heap.size, 1, none⟩ = some (.int .i32 a1_1) := (bkC HA4.out.box 1).trans rfl; have b2 : w4.cell? ⟨w.heap.size, 2, none⟩ = some (.bool a1_2) := (bkC HA4.out.box 2).trans rfl; have b3 : w4.cell? ⟨w.heap.size, 3, none⟩ = some (.bool a1_3) := (bkC HA4.out.box 3).trans rfl; have b4 : w4.cell? ⟨w.heap.size, 4, none⟩ = some (.bool a1_4) := (bkC HA4.out.box 4).trans rfl; have b5 : w4.cell? ⟨w.heap.size, 5, none⟩ = some (.string a1_5) := (bkC HA4.out.box 5).trans rfl; have c0 := cellS59_0 HA4.out.st.1; have f0 := bkF HA4.out.st.1 0; have c1 := cellS59_1 HA4.out.st.1; have f1 := bkF HA4.out.st.1 1; have c2 := cellS59_2 HA4.out.st.1; have f2 := bkF HA4.out.st.1 2; have x0 : w4.cell? ⟨w2.heap.size, 0, none⟩ = some (.int .i64 0) := (bkC HX.out 0).trans rfl; have y0 := bkF HX.out 0; have x1 : w4.cell? ⟨w2.heap.size, 1, none⟩ = some (.int .i64 0) := (bkC HX.out 1).trans rfl; have y1 := bkF HX.out 1; have x2 : w4.cell? ⟨w2.heap.size, 2, none⟩ = some (.string ⟨#[]⟩) := (bkC HX.out 2).trans rfl; have y2 := bkF HX.out 2; have x3 : w4.cell? ⟨w2.heap.size, 3, none⟩ = some (.int .u8 0) := (bkC HX.out 3).trans rfl; have y3 := bkF HX.out 3)
  | (go_at_call 35; refine (bodkinref19_Binder_Count.calls g p s0_1 s0_2 n1 n2 p s0_1 s0_2 w0 _ (by repeat (first | with_reducible exact HA4.out.st | refine IsS59.far ?_ hn3 _)) (by repeat (first | with_reducible exact HA4.out.bel | refine bwS ?_ hbw.out)) HN.out).mono ?_; rintro e w5 ⟨rfl, hI5, hB5, hK5⟩; have HX5 := aM (hK5.blk (g' := w2.heap.size) (show _ = some (Obj.cells #[.int .i64 r1, .int .i64 r2, .string r3, .int .u8 r4] 36 (0, 0)) from (bkU (cs := #[.int .i64 r1, .int .i64 r2, .string r3, .int .u8 0]) (bkU (cs := #[.int .i64 r1, .int .i64 r2, .string ⟨#[]⟩, .int .u8 0]) (bkU (cs := #[.int .i64 r1, .int .i64 0, .string ⟨#[]⟩, .int .u8 0]) (bkU (cs := #[.int .i64 0, .int .i64 0, .string ⟨#[]⟩, .int .u8 0]) HX.out 0 _ rfl) 1 _ rfl) 2 _ rfl) 3 _ rfl)) hn3' (by simp)); have HA5 := aM ((RKeyAt.four HA4.out hbw.out hbk.out hn3 hn5 hn6 _ _ _ _).call hlt.out hI5 hB5 hK5); clear hI5 hB5 hK5 HN HX; have HX := HX5; clear HX5; clear b0 b1 b2 b3 b4 b5 c0 f0 c1 f1 c2 f2; clear x0 y0 x1 y1 x2 y2 x3 y3; have b0 : w5.cell? ⟨w.heap.size, 0, none⟩ = some (.int .i64 a1_0) := (bkC HA5.out.box 0).trans rfl; have b1 : w5.cell? ⟨w.heap.size, 1, none⟩ = some (.int .i32 a1_1) := (bkC HA5.out.box 1).trans rfl; have b2 : w5.cell? ⟨w.heap.size, 2, none⟩ = some (.bool a1_2) := (bkC HA5.out.box 2).trans rfl; have b3 : w5.cell? ⟨w.heap.size, 3, none⟩ = some (.bool a1_3) := (bkC HA5.out.box 3).trans rfl; have b4 : w5.cell? ⟨w.heap.size, 4, none⟩ = some (.bool a1_4) := (bkC HA5.out.box 4).trans rfl; have b5 : w5.cell? ⟨w.heap.size, 5, none⟩ = some (.string a1_5) := (bkC HA5.out.box 5).trans rfl; have c0 := cellS59_0 HA5.out.st.1; have f0 := bkF HA5.out.st.1 0; have c1 := cellS59_1 HA5.out.st.1; have f1 := bkF HA5.out.st.1 1; have c2 := cellS59_2 HA5.out.st.1; have f2 := bkF HA5.out.st.1 2; have x0 : w5.cell? ⟨w2.heap.size, 0, none⟩ = some (.int .i64 r1) := (bkC HX.out 0).trans rfl; have y0 := bkF HX.out 0; have x1 : w5.cell? ⟨w2.heap.size, 1, none⟩ = some (.int .i64 r2) := (bkC HX.out 1).trans rfl; have y1 := bkF HX.out 1; have x2 : w5.cell? ⟨w2.heap.size, 2, none⟩ = some (.string r3) := (bkC HX.out 2).trans rfl; have y2 := bkF HX.out 2; have x3 : w5.cell? ⟨w2.heap.size, 3, none⟩ = some (.int .u8 r4) := (bkC HX.out 3).trans rfl; have y3 := bkF HX.out 3)
  | (go_at_call 42; refine (bodkinref19_Binder_Reset.calls g p s0_1 s0_2 ⟨#[]⟩ 0 false w0 _ (IsS59.far (IsS59.far HA5.out.st hn3 _) hn3 _) (bwS (bwS HA5.out.bel hbw.out) hbw.out) rfl).mono ?_; rintro e w6 ⟨rfl, hI5, hB5, hK5⟩; have HX6 := aM (hK5.blk (g' := w2.heap.size) (show _ = some (Obj.cells #[.int .i64 r1, .int .i64 1, .string r3, .int .u8 r4] 36 (0, 0)) from (bkU (cs := #[.int .i64 r1, .int .i64 n1, .string r3, .int .u8 r4]) (bkU (cs := #[.int .i64 r1, .int .i64 r2, .string r3, .int .u8 r4]) HX.out 1 _ rfl) 1 _ rfl)) hn3' (by simp)); have HA6 := aM ((((RKeyAt.far HA5.out hbw.out hbk.out hn3 hn5 hn6 _ _).far hbw.out hbk.out hn3 hn5 hn6 _ _)).call hlt.out hI5 hB5 hK5); clear hI5 hB5 hK5 HX; have HX := HX6; clear HX6; clear b0 b1 b2 b3 b4 b5 c0 f0 c1 f1 c2 f2; clear x0 y0 x1 y1 x2 y2 x3 y3; have b0 : w6.cell? ⟨w.heap.size, 0, none⟩ = some (.int .i64 a1_0) := (bkC HA6.out.box 0).trans rfl; have b1 : w6.cell? ⟨w.heap.size, 1, none⟩ = some (.int .i32 a1_1) := (bkC HA6.out.box 1).trans rfl; have b2 : w6.cell? ⟨w.heap.size, 2, none⟩ = some (.bool a1_2) := (bkC HA6.out.box 2).trans rfl; have b3 : w6.cell? ⟨w.heap.size, 3, none⟩ = some (.bool a1_3) := (bkC HA6.out.box 3).trans rfl; have b4 : w6.cell? ⟨w.heap.size, 4, none⟩ = some (.bool a1_4) := (bkC HA6.out.box 4).trans rfl; have b5 : w6.cell? ⟨w.heap.size, 5, none⟩ = some (.string a1_5) := (bkC HA6.out.box 5).trans rfl; have c0 := cellS59_0 HA6.out.st.1; have f0 := bkF HA6.out.st.1 0; have c1 := cellS59_1 HA6.out.st.1; have f1 := bkF HA6.out.st.1 1; have c2 := cellS59_2 HA6.out.st.1; have f2 := bkF HA6.out.st.1 2; have x0 : w6.cell? ⟨w2.heap.size, 0, none⟩ = some (.int .i64 r1) := (bkC HX.out 0).trans rfl; have y0 := bkF HX.out 0; have x1 : w6.cell? ⟨w2.heap.size, 1, none⟩ = some (.int .i64 1) := (bkC HX.out 1).trans rfl; have y1 := bkF HX.out 1; have x2 : w6.cell? ⟨w2.heap.size, 2, none⟩ = some (.string r3) := (bkC HX.out 2).trans rfl; have y2 := bkF HX.out 2; have x3 : w6.cell? ⟨w2.heap.size, 3, none⟩ = some (.int .u8 r4) := (bkC HX.out 3).trans rfl; have y3 := bkF HX.out 3; have d0 : w6.cell? ⟨w.heap.size + 1, 0, none⟩ = some (.int .i64 0) := (bkC HA6.out.res 0).trans rfl; have e0 := bkF HA6.out.res 0; have d1 : w6.cell? ⟨w.heap.size + 1, 1, none⟩ = some (.int .i64 0) := (bkC HA6.out.res 1).trans rfl; have e1 := bkF HA6.out.res 1; have d2 : w6.cell? ⟨w.heap.size + 1, 2, none⟩ = some (.string ⟨#[]⟩) := (bkC HA6.out.res 2).trans rfl; have e2 := bkF HA6.out.res 2; have d3 : w6.cell? ⟨w.heap.size + 1, 3, none⟩ = some (.int .u8 0) := (bkC HA6.out.res 3).trans rfl; have e3 := bkF HA6.out.res 3))
 refine bodyPost_ret (results_ct rfl _ _ (w.heap.size + 1) 36 #[.int .i64 r1, .int .i64 1, .string r3, .int .u8 r4] (0, 0) _ rfl ?_ Try.underlying36 rfl (by kernel_rfl)) rfl ?_
 ·exact (bkU (cs := #[.int .i64 r1, .int .i64 1, .string r3, .int .u8 0]) (bkU (cs := #[.int .i64 r1, .int .i64 1, .string ⟨#[]⟩, .int .u8 0]) (bkU (cs := #[.int .i64 r1, .int .i64 0, .string ⟨#[]⟩, .int .u8 0]) (bkU (cs := #[.int .i64 0, .int .i64 0, .string ⟨#[]⟩, .int .u8 0]) HA6.out.res 0 _ rfl) 1 _ rfl) 2 _ rfl) 3 _ rfl)
 refine ⟨rfl, ?_, ?_, ?_⟩
 ·exact IsS59.far (IsS59.far (IsS59.far (IsS59.far HA6.out.st hne2 _) hne2 _) hne2 _) hne2 _
 ·have hz : w0.heap.size ≤ w.heap.size + 1 := by have := HBS.out; omega
  exact bwS (bwS (bwS (bwS HA6.out.bel hz) hz) hz) hz
 have hz : w.heap.size ≤ w.heap.size + 1 := by omega
 exact keep_far (keep_far (keep_far (keep_far HA6.out.keep hz _) hz _) hz _) hz _

set_option maxHeartbeats 1000000 in
set_option maxRecDepth 100000 in
theorem rkey_quoted (k : Nat) (g : Nat) (s0_0 : ByteArray) (s0_1 : Int) (s0_2 : Bool) (a1_0 : Int) (a1_1 : Int) (a1_2 : Bool) (a1_3 : Bool) (a1_4 : Bool) (a1_5 : ByteArray) (r1 r2 : Int) (r3 : ByteArray) (r4 : Int) (n1 : Int) (n2 : Bool) (w0 w : World) (hI : IsS59 w0 w g s0_0 s0_1 s0_2) (hB : Below w0.heap.size w0 w) (he : (s0_0.toList == ([] : List UInt8)) = false) (he' : (s0_0.toList != ([] : List UInt8)) = true) (hq : (s0_0.toList == ([113] : List UInt8)) = true) (hc : bodkinref19_quoted.f k a1_0 a1_1 a1_2 a1_3 a1_4 a1_5 = some (r1, r2, r3, r4)) (hn : bodkinref19_Binder_Count.f s0_0 s0_1 s0_2 = some (n1, n2, s0_0, s0_1, s0_2)) (hr : (r1 == 37) = false) :
    Calls Try.prog 29 #[.pointer (some ⟨g, 0, none⟩), .agg #[.int .i64 a1_0, .int .i32 a1_1, .bool a1_2, .bool a1_3, .bool a1_4, .string a1_5]] w fun e w' => e = .returned (.tuple #[.agg #[.int .i64 r1, .int .i64 n1, .string r3, .int .u8 r4], .bool true]) ∧ IsS59 w0 w' g ⟨#[]⟩ 0 false ∧ Below w0.heap.size w0 w' ∧ KeepBut w w' g none := by
 have HS0 := aM hI.1
 have hlt := aM hI.lt
 have hge := aM hI.ge
 have HA := aM (RKeyAt.start (a1_0 := a1_0) (a1_1 := a1_1) (a1_2 := a1_2) (a1_3 := a1_3) (a1_4 := a1_4) (a1_5 := a1_5) hI hB)
 have HBS := aM hB.size
 clear hI hB
 have HC := aM hc
 have HN := aM hn
 clear hc hn
 have hne1 : g ≠ w.heap.size := by have := hlt.out; omega
 have hne2 : g ≠ w.heap.size + 1 := by have := hlt.out; omega
 have hne1' : w.heap.size ≠ g := by have := hlt.out; omega
 have hne2' : w.heap.size + 1 ≠ g := by have := hlt.out; omega
 have hst : ∀ o1 o2 : Obj, ((w.alloc o1).alloc o2).heap[g]? = some (.cells #[.string s0_0, .int .i64 s0_1, .bool s0_2] 59 (0, 0)) := fun o1 o2 => bkA (bkA HS0.out _) _
 have z0 : ∀ o1 o2 : Obj, ((w.alloc o1).alloc o2).cell? ⟨g, 0, none⟩ = some (.string s0_0) := fun o1 o2 => (bkC (hst o1 o2) 0).trans rfl
 clear hst
 have hz2 : ((w.alloc (.cells #[.int .i64 a1_0, .int .i32 a1_1, .bool a1_2, .bool a1_3, .bool a1_4, .string a1_5] 25)).alloc (.cells #[.int .i64 0, .int .i64 0, .string ⟨#[]⟩, .int .u8 0] 36)).heap.size = w.heap.size + 2 := by simp
 have hn3 : g ≠ (w.heap.size + 2) := Nat.ne_of_lt (Nat.lt_of_lt_of_le hlt.out (Nat.le_add_right _ _))
 have hn3' : (w.heap.size + 2) ≠ g := Nat.ne_of_gt (Nat.lt_of_lt_of_le hlt.out (Nat.le_add_right _ _))
 have hn5 : w.heap.size ≠ (w.heap.size + 2) := by omega
 have hn6 : w.heap.size + 1 ≠ (w.heap.size + 2) := by omega
 have hbw := aM (show w0.heap.size ≤ (w.heap.size + 2) from Nat.le_trans HBS.out (Nat.le_add_right _ _))
 have hbk := aM (show w.heap.size ≤ (w.heap.size + 2) from by omega)
 have HAs := HA
 have p0 := fun (o : Obj) => (World.cell?_alloc_lt ((w.alloc (.cells #[.int .i64 a1_0, .int .i32 a1_1, .bool a1_2, .bool a1_3, .bool a1_4, .string a1_5] 25)).alloc (.cells #[.int .i64 0, .int .i64 0, .string ⟨#[]⟩, .int .u8 0] 36)) o ⟨g, 0, none⟩ HA.1.st.lt).trans (cellS59_0 HA.1.st.1)
 have q0 : ∀ (o : Obj), (World.alloc ((w.alloc (.cells #[.int .i64 a1_0, .int .i32 a1_1, .bool a1_2, .bool a1_3, .bool a1_4, .string a1_5] 25)).alloc (.cells #[.int .i64 0, .int .i64 0, .string ⟨#[]⟩, .int .u8 0] 36)) o).cell? ⟨w.heap.size, 0, none⟩ = some (.int .i64 a1_0) := fun (o : Obj) => (World.cell?_alloc_lt ((w.alloc (.cells #[.int .i64 a1_0, .int .i32 a1_1, .bool a1_2, .bool a1_3, .bool a1_4, .string a1_5] 25)).alloc (.cells #[.int .i64 0, .int .i64 0, .string ⟨#[]⟩, .int .u8 0] 36)) o ⟨w.heap.size, 0, none⟩ (bkL HA.1.box)).trans ((bkC HA.1.box 0).trans rfl)
 have q1 : ∀ (o : Obj), (World.alloc ((w.alloc (.cells #[.int .i64 a1_0, .int .i32 a1_1, .bool a1_2, .bool a1_3, .bool a1_4, .string a1_5] 25)).alloc (.cells #[.int .i64 0, .int .i64 0, .string ⟨#[]⟩, .int .u8 0] 36)) o).cell? ⟨w.heap.size, 1, none⟩ = some (.int .i32 a1_1) := fun (o : Obj) => (World.cell?_alloc_lt ((w.alloc (.cells #[.int .i64 a1_0, .int .i32 a1_1, .bool a1_2, .bool a1_3, .bool a1_4, .string a1_5] 25)).alloc (.cells #[.int .i64 0, .int .i64 0, .string ⟨#[]⟩, .int .u8 0] 36)) o ⟨w.heap.size, 1, none⟩ (bkL HA.1.box)).trans ((bkC HA.1.box 1).trans rfl)
 have q2 : ∀ (o : Obj), (World.alloc ((w.alloc (.cells #[.int .i64 a1_0, .int .i32 a1_1, .bool a1_2, .bool a1_3, .bool a1_4, .string a1_5] 25)).alloc (.cells #[.int .i64 0, .int .i64 0, .string ⟨#[]⟩, .int .u8 0] 36)) o).cell? ⟨w.heap.size, 2, none⟩ = some (.bool a1_2) := fun (o : Obj) => (World.cell?_alloc_lt ((w.alloc (.cells #[.int .i64 a1_0, .int .i32 a1_1, .bool a1_2, .bool a1_3, .bool a1_4, .string a1_5] 25)).alloc (.cells #[.int .i64 0, .int .i64 0, .string ⟨#[]⟩, .int .u8 0] 36)) o ⟨w.heap.size, 2, none⟩ (bkL HA.1.box)).trans ((bkC HA.1.box 2).trans rfl)
 have q3 : ∀ (o : Obj), (World.alloc ((w.alloc (.cells #[.int .i64 a1_0, .int .i32 a1_1, .bool a1_2, .bool a1_3, .bool a1_4, .string a1_5] 25)).alloc (.cells #[.int .i64 0, .int .i64 0, .string ⟨#[]⟩, .int .u8 0] 36)) o).cell? ⟨w.heap.size, 3, none⟩ = some (.bool a1_3) := fun (o : Obj) => (World.cell?_alloc_lt ((w.alloc (.cells #[.int .i64 a1_0, .int .i32 a1_1, .bool a1_2, .bool a1_3, .bool a1_4, .string a1_5] 25)).alloc (.cells #[.int .i64 0, .int .i64 0, .string ⟨#[]⟩, .int .u8 0] 36)) o ⟨w.heap.size, 3, none⟩ (bkL HA.1.box)).trans ((bkC HA.1.box 3).trans rfl)
 have q4 : ∀ (o : Obj), (World.alloc ((w.alloc (.cells #[.int .i64 a1_0, .int .i32 a1_1, .bool a1_2, .bool a1_3, .bool a1_4, .string a1_5] 25)).alloc (.cells #[.int .i64 0, .int .i64 0, .string ⟨#[]⟩, .int .u8 0] 36)) o).cell? ⟨w.heap.size, 4, none⟩ = some (.bool a1_4) := fun (o : Obj) => (World.cell?_alloc_lt ((w.alloc (.cells #[.int .i64 a1_0, .int .i32 a1_1, .bool a1_2, .bool a1_3, .bool a1_4, .string a1_5] 25)).alloc (.cells #[.int .i64 0, .int .i64 0, .string ⟨#[]⟩, .int .u8 0] 36)) o ⟨w.heap.size, 4, none⟩ (bkL HA.1.box)).trans ((bkC HA.1.box 4).trans rfl)
 have q5 : ∀ (o : Obj), (World.alloc ((w.alloc (.cells #[.int .i64 a1_0, .int .i32 a1_1, .bool a1_2, .bool a1_3, .bool a1_4, .string a1_5] 25)).alloc (.cells #[.int .i64 0, .int .i64 0, .string ⟨#[]⟩, .int .u8 0] 36)) o).cell? ⟨w.heap.size, 5, none⟩ = some (.string a1_5) := fun (o : Obj) => (World.cell?_alloc_lt ((w.alloc (.cells #[.int .i64 a1_0, .int .i32 a1_1, .bool a1_2, .bool a1_3, .bool a1_4, .string a1_5] 25)).alloc (.cells #[.int .i64 0, .int .i64 0, .string ⟨#[]⟩, .int .u8 0] 36)) o ⟨w.heap.size, 5, none⟩ (bkL HA.1.box)).trans ((bkC HA.1.box 5).trans rfl)
 go_enter Try.func29, Try.ntmps29
 go_wp2_with (first
  | (go_at_call 40; refine (bodkinref19_quoted.calls k a1_0 a1_1 a1_2 a1_3 a1_4 a1_5 r1 r2 r3 r4 _ HC.out).mono ?_; rintro e w4 ⟨rfl, hB2⟩; have HX := aM (bkB (new3_at _ _ _ ()) hB2); have HA4 := aM ((HA.1.quiet ((Below.refl _ _).alloc (Nat.le_refl _) _)).quiet hB2); clear hB2 HC; clear p0 q0 q1 q2 q3 q4 q5; have b0 : w4.cell? ⟨w.heap.size, 0, none⟩ = some (.int .i64 a1_0) := (bkC HA4.out.box 0).trans rfl; have b1 : w4.cell? ⟨w.heap.size, 1, none⟩ = some (.int .i32 a1_1) := (bkC HA4.out.box 1).trans rfl; have b2 : w4.cell? ⟨w.heap.size, 2, none⟩ = some (.bool a1_2) := (bkC HA4.out.box 2).trans rfl; have b3 : w4.cell? ⟨w.heap.size, 3, none⟩ = some (.bool a1_3) := (bkC HA4.out.box 3).trans rfl; have b4 : w4.cell? ⟨w.heap.size, 4, none⟩ = some (.bool a1_4) := (bkC HA4.out.box 4).trans rfl; have b5 : w4.cell? ⟨w.heap.size, 5, none⟩ = some (.string a1_5) := (bkC HA4.out.box 5).trans rfl; have c0 := cellS59_0 HA4.out.st.1; have f0 := bkF HA4.out.st.1 0; have c1 := cellS59_1 HA4.out.st.1; have f1 := bkF HA4.out.st.1 1; have c2 := cellS59_2 HA4.out.st.1; have f2 := bkF HA4.out.st.1 2; have x0 : w4.cell? ⟨(w.heap.size + 2), 0, none⟩ = some (.int .i64 0) := (bkC HX.out 0).trans rfl; have y0 := bkF HX.out 0; have x1 : w4.cell? ⟨(w.heap.size + 2), 1, none⟩ = some (.int .i64 0) := (bkC HX.out 1).trans rfl; have y1 := bkF HX.out 1; have x2 : w4.cell? ⟨(w.heap.size + 2), 2, none⟩ = some (.string ⟨#[]⟩) := (bkC HX.out 2).trans rfl; have y2 := bkF HX.out 2; have x3 : w4.cell? ⟨(w.heap.size + 2), 3, none⟩ = some (.int .u8 0) := (bkC HX.out 3).trans rfl; have y3 := bkF HX.out 3)
  | (go_at_call 35; refine (bodkinref19_Binder_Count.calls g s0_0 s0_1 s0_2 n1 n2 s0_0 s0_1 s0_2 w0 _ (by repeat (first | with_reducible exact HA4.out.st | refine IsS59.far ?_ hn3 _)) (by repeat (first | with_reducible exact HA4.out.bel | refine bwS ?_ hbw.out)) HN.out).mono ?_; rintro e w5 ⟨rfl, hI5, hB5, hK5⟩; have HX5 := aM (hK5.blk (g' := (w.heap.size + 2)) (show _ = some (Obj.cells #[.int .i64 r1, .int .i64 r2, .string r3, .int .u8 r4] 36 (0, 0)) from (bkU (cs := #[.int .i64 r1, .int .i64 r2, .string r3, .int .u8 0]) (bkU (cs := #[.int .i64 r1, .int .i64 r2, .string ⟨#[]⟩, .int .u8 0]) (bkU (cs := #[.int .i64 r1, .int .i64 0, .string ⟨#[]⟩, .int .u8 0]) (bkU (cs := #[.int .i64 0, .int .i64 0, .string ⟨#[]⟩, .int .u8 0]) HX.out 0 _ rfl) 1 _ rfl) 2 _ rfl) 3 _ rfl)) hn3' (by simp)); have HA5 := aM ((RKeyAt.four HA4.out hbw.out hbk.out hn3 hn5 hn6 _ _ _ _).call hlt.out hI5 hB5 hK5); clear hI5 hB5 hK5 HN HX; have HX := HX5; clear HX5; clear b0 b1 b2 b3 b4 b5 c0 f0 c1 f1 c2 f2; clear x0 y0 x1 y1 x2 y2 x3 y3; have b0 : w5.cell? ⟨w.heap.size, 0, none⟩ = some (.int .i64 a1_0) := (bkC HA5.out.box 0).trans rfl; have b1 : w5.cell? ⟨w.heap.size, 1, none⟩ = some (.int .i32 a1_1) := (bkC HA5.out.box 1).trans rfl; have b2 : w5.cell? ⟨w.heap.size, 2, none⟩ = some (.bool a1_2) := (bkC HA5.out.box 2).trans rfl; have b3 : w5.cell? ⟨w.heap.size, 3, none⟩ = some (.bool a1_3) := (bkC HA5.out.box 3).trans rfl; have b4 : w5.cell? ⟨w.heap.size, 4, none⟩ = some (.bool a1_4) := (bkC HA5.out.box 4).trans rfl; have b5 : w5.cell? ⟨w.heap.size, 5, none⟩ = some (.string a1_5) := (bkC HA5.out.box 5).trans rfl; have c0 := cellS59_0 HA5.out.st.1; have f0 := bkF HA5.out.st.1 0; have c1 := cellS59_1 HA5.out.st.1; have f1 := bkF HA5.out.st.1 1; have c2 := cellS59_2 HA5.out.st.1; have f2 := bkF HA5.out.st.1 2; have x0 : w5.cell? ⟨(w.heap.size + 2), 0, none⟩ = some (.int .i64 r1) := (bkC HX.out 0).trans rfl; have y0 := bkF HX.out 0; have x1 : w5.cell? ⟨(w.heap.size + 2), 1, none⟩ = some (.int .i64 r2) := (bkC HX.out 1).trans rfl; have y1 := bkF HX.out 1; have x2 : w5.cell? ⟨(w.heap.size + 2), 2, none⟩ = some (.string r3) := (bkC HX.out 2).trans rfl; have y2 := bkF HX.out 2; have x3 : w5.cell? ⟨(w.heap.size + 2), 3, none⟩ = some (.int .u8 r4) := (bkC HX.out 3).trans rfl; have y3 := bkF HX.out 3)
  | (go_at_call 42; refine (bodkinref19_Binder_Reset.calls g s0_0 s0_1 s0_2 ⟨#[]⟩ 0 false w0 _ (IsS59.far HA5.out.st hn3 _) (bwS HA5.out.bel hbw.out) rfl).mono ?_; rintro e w6 ⟨rfl, hI5, hB5, hK5⟩; have HX6 := aM (hK5.blk (g' := (w.heap.size + 2)) (show _ = some (Obj.cells #[.int .i64 r1, .int .i64 n1, .string r3, .int .u8 r4] 36 (0, 0)) from (bkU (cs := #[.int .i64 r1, .int .i64 r2, .string r3, .int .u8 r4]) HX.out 1 _ rfl)) hn3' (by simp)); have HA6 := aM (((RKeyAt.far HA5.out hbw.out hbk.out hn3 hn5 hn6 _ _)).call hlt.out hI5 hB5 hK5); clear hI5 hB5 hK5 HX; have HX := HX6; clear HX6; clear b0 b1 b2 b3 b4 b5 c0 f0 c1 f1 c2 f2; clear x0 y0 x1 y1 x2 y2 x3 y3; have b0 : w6.cell? ⟨w.heap.size, 0, none⟩ = some (.int .i64 a1_0) := (bkC HA6.out.box 0).trans rfl; have b1 : w6.cell? ⟨w.heap.size, 1, none⟩ = some (.int .i32 a1_1) := (bkC HA6.out.box 1).trans rfl; have b2 : w6.cell? ⟨w.heap.size, 2, none⟩ = some (.bool a1_2) := (bkC HA6.out.box 2).trans rfl; have b3 : w6.cell? ⟨w.heap.size, 3, none⟩ = some (.bool a1_3) := (bkC HA6.out.box 3).trans rfl; have b4 : w6.cell? ⟨w.heap.size, 4, none⟩ = some (.bool a1_4) := (bkC HA6.out.box 4).trans rfl; have b5 : w6.cell? ⟨w.heap.size, 5, none⟩ = some (.string a1_5) := (bkC HA6.out.box 5).trans rfl; have c0 := cellS59_0 HA6.out.st.1; have f0 := bkF HA6.out.st.1 0; have c1 := cellS59_1 HA6.out.st.1; have f1 := bkF HA6.out.st.1 1; have c2 := cellS59_2 HA6.out.st.1; have f2 := bkF HA6.out.st.1 2; have x0 : w6.cell? ⟨(w.heap.size + 2), 0, none⟩ = some (.int .i64 r1) := (bkC HX.out 0).trans rfl; have y0 := bkF HX.out 0; have x1 : w6.cell? ⟨(w.heap.size + 2), 1, none⟩ = some (.int .i64 n1) := (bkC HX.out 1).trans rfl; have y1 := bkF HX.out 1; have x2 : w6.cell? ⟨(w.heap.size + 2), 2, none⟩ = some (.string r3) := (bkC HX.out 2).trans rfl; have y2 := bkF HX.out 2; have x3 : w6.cell? ⟨(w.heap.size + 2), 3, none⟩ = some (.int .u8 r4) := (bkC HX.out 3).trans rfl; have y3 := bkF HX.out 3; have d0 : w6.cell? ⟨w.heap.size + 1, 0, none⟩ = some (.int .i64 0) := (bkC HA6.out.res 0).trans rfl; have e0 := bkF HA6.out.res 0; have d1 : w6.cell? ⟨w.heap.size + 1, 1, none⟩ = some (.int .i64 0) := (bkC HA6.out.res 1).trans rfl; have e1 := bkF HA6.out.res 1; have d2 : w6.cell? ⟨w.heap.size + 1, 2, none⟩ = some (.string ⟨#[]⟩) := (bkC HA6.out.res 2).trans rfl; have e2 := bkF HA6.out.res 2; have d3 : w6.cell? ⟨w.heap.size + 1, 3, none⟩ = some (.int .u8 0) := (bkC HA6.out.res 3).trans rfl; have e3 := bkF HA6.out.res 3))
 refine bodyPost_ret (results_ct rfl _ _ (w.heap.size + 1) 36 #[.int .i64 r1, .int .i64 n1, .string r3, .int .u8 r4] (0, 0) _ rfl ?_ Try.underlying36 rfl (by kernel_rfl)) rfl ?_
 ·exact (bkU (cs := #[.int .i64 r1, .int .i64 n1, .string r3, .int .u8 0]) (bkU (cs := #[.int .i64 r1, .int .i64 n1, .string ⟨#[]⟩, .int .u8 0]) (bkU (cs := #[.int .i64 r1, .int .i64 0, .string ⟨#[]⟩, .int .u8 0]) (bkU (cs := #[.int .i64 0, .int .i64 0, .string ⟨#[]⟩, .int .u8 0]) HA6.out.res 0 _ rfl) 1 _ rfl) 2 _ rfl) 3 _ rfl)
 refine ⟨rfl, ?_, ?_, ?_⟩
 ·exact IsS59.far (IsS59.far (IsS59.far (IsS59.far HA6.out.st hne2 _) hne2 _) hne2 _) hne2 _
 ·have hz : w0.heap.size ≤ w.heap.size + 1 := by have := HBS.out; omega
  exact bwS (bwS (bwS (bwS HA6.out.bel hz) hz) hz) hz
 have hz : w.heap.size ≤ w.heap.size + 1 := by omega
 exact keep_far (keep_far (keep_far (keep_far HA6.out.keep hz _) hz _) hz _) hz _

set_option maxHeartbeats 1000000 in
set_option maxRecDepth 100000 in
theorem rkey_quoted_abort (k : Nat) (g : Nat) (s0_0 : ByteArray) (s0_1 : Int) (s0_2 : Bool) (a1_0 : Int) (a1_1 : Int) (a1_2 : Bool) (a1_3 : Bool) (a1_4 : Bool) (a1_5 : ByteArray) (r1 r2 : Int) (r3 : ByteArray) (r4 : Int) (n1 : Int) (n2 : Bool) (w0 w : World) (hI : IsS59 w0 w g s0_0 s0_1 s0_2) (hB : Below w0.heap.size w0 w) (he : (s0_0.toList == ([] : List UInt8)) = false) (he' : (s0_0.toList != ([] : List UInt8)) = true) (hq : (s0_0.toList == ([113] : List UInt8)) = true) (hc : bodkinref19_quoted.f k a1_0 a1_1 a1_2 a1_3 a1_4 a1_5 = some (r1, r2, r3, r4)) (hn : bodkinref19_Binder_Count.f s0_0 s0_1 s0_2 = some (n1, n2, s0_0, s0_1, s0_2)) (hr : (r1 == 37) = true) :
    Calls Try.prog 29 #[.pointer (some ⟨g, 0, none⟩), .agg #[.int .i64 a1_0, .int .i32 a1_1, .bool a1_2, .bool a1_3, .bool a1_4, .string a1_5]] w fun e w' => e = .returned (.tuple #[.agg #[.int .i64 r1, .int .i64 1, .string r3, .int .u8 r4], .bool true]) ∧ IsS59 w0 w' g ⟨#[]⟩ 0 false ∧ Below w0.heap.size w0 w' ∧ KeepBut w w' g none := by
 have HS0 := aM hI.1
 have hlt := aM hI.lt
 have hge := aM hI.ge
 have HA := aM (RKeyAt.start (a1_0 := a1_0) (a1_1 := a1_1) (a1_2 := a1_2) (a1_3 := a1_3) (a1_4 := a1_4) (a1_5 := a1_5) hI hB)
 have HBS := aM hB.size
 clear hI hB
 have HC := aM hc
 have HN := aM hn
 clear hc hn
 have hne1 : g ≠ w.heap.size := by have := hlt.out; omega
 have hne2 : g ≠ w.heap.size + 1 := by have := hlt.out; omega
 have hne1' : w.heap.size ≠ g := by have := hlt.out; omega
 have hne2' : w.heap.size + 1 ≠ g := by have := hlt.out; omega
 have hst : ∀ o1 o2 : Obj, ((w.alloc o1).alloc o2).heap[g]? = some (.cells #[.string s0_0, .int .i64 s0_1, .bool s0_2] 59 (0, 0)) := fun o1 o2 => bkA (bkA HS0.out _) _
 have z0 : ∀ o1 o2 : Obj, ((w.alloc o1).alloc o2).cell? ⟨g, 0, none⟩ = some (.string s0_0) := fun o1 o2 => (bkC (hst o1 o2) 0).trans rfl
 clear hst
 have hz2 : ((w.alloc (.cells #[.int .i64 a1_0, .int .i32 a1_1, .bool a1_2, .bool a1_3, .bool a1_4, .string a1_5] 25)).alloc (.cells #[.int .i64 0, .int .i64 0, .string ⟨#[]⟩, .int .u8 0] 36)).heap.size = w.heap.size + 2 := by simp
 have hn3 : g ≠ (w.heap.size + 2) := Nat.ne_of_lt (Nat.lt_of_lt_of_le hlt.out (Nat.le_add_right _ _))
 have hn3' : (w.heap.size + 2) ≠ g := Nat.ne_of_gt (Nat.lt_of_lt_of_le hlt.out (Nat.le_add_right _ _))
 have hn5 : w.heap.size ≠ (w.heap.size + 2) := by omega
 have hn6 : w.heap.size + 1 ≠ (w.heap.size + 2) := by omega
 have hbw := aM (show w0.heap.size ≤ (w.heap.size + 2) from Nat.le_trans HBS.out (Nat.le_add_right _ _))
 have hbk := aM (show w.heap.size ≤ (w.heap.size + 2) from by omega)
 have HAs := HA
 have p0 := fun (o : Obj) => (World.cell?_alloc_lt ((w.alloc (.cells #[.int .i64 a1_0, .int .i32 a1_1, .bool a1_2, .bool a1_3, .bool a1_4, .string a1_5] 25)).alloc (.cells #[.int .i64 0, .int .i64 0, .string ⟨#[]⟩, .int .u8 0] 36)) o ⟨g, 0, none⟩ HA.1.st.lt).trans (cellS59_0 HA.1.st.1)
 have q0 : ∀ (o : Obj), (World.alloc ((w.alloc (.cells #[.int .i64 a1_0, .int .i32 a1_1, .bool a1_2, .bool a1_3, .bool a1_4, .string a1_5] 25)).alloc (.cells #[.int .i64 0, .int .i64 0, .string ⟨#[]⟩, .int .u8 0] 36)) o).cell? ⟨w.heap.size, 0, none⟩ = some (.int .i64 a1_0) := fun (o : Obj) => (World.cell?_alloc_lt ((w.alloc (.cells #[.int .i64 a1_0, .int .i32 a1_1, .bool a1_2, .bool a1_3, .bool a1_4, .string a1_5] 25)).alloc (.cells #[.int .i64 0, .int .i64 0, .string ⟨#[]⟩, .int .u8 0] 36)) o ⟨w.heap.size, 0, none⟩ (bkL HA.1.box)).trans ((bkC HA.1.box 0).trans rfl)
 have q1 : ∀ (o : Obj), (World.alloc ((w.alloc (.cells #[.int .i64 a1_0, .int .i32 a1_1, .bool a1_2, .bool a1_3, .bool a1_4, .string a1_5] 25)).alloc (.cells #[.int .i64 0, .int .i64 0, .string ⟨#[]⟩, .int .u8 0] 36)) o).cell? ⟨w.heap.size, 1, none⟩ = some (.int .i32 a1_1) := fun (o : Obj) => (World.cell?_alloc_lt ((w.alloc (.cells #[.int .i64 a1_0, .int .i32 a1_1, .bool a1_2, .bool a1_3, .bool a1_4, .string a1_5] 25)).alloc (.cells #[.int .i64 0, .int .i64 0, .string ⟨#[]⟩, .int .u8 0] 36)) o ⟨w.heap.size, 1, none⟩ (bkL HA.1.box)).trans ((bkC HA.1.box 1).trans rfl)
 have q2 : ∀ (o : Obj), (World.alloc ((w.alloc (.cells #[.int .i64 a1_0, .int .i32 a1_1, .bool a1_2, .bool a1_3, .bool a1_4, .string a1_5] 25)).alloc (.cells #[.int .i64 0, .int .i64 0, .string ⟨#[]⟩, .int .u8 0] 36)) o).cell? ⟨w.heap.size, 2, none⟩ = some (.bool a1_2) := fun (o : Obj) => (World.cell?_alloc_lt ((w.alloc (.cells #[.int .i64 a1_0, .int .i32 a1_1, .bool a1_2, .bool a1_3, .bool a1_4, .string a1_5] 25)).alloc (.cells #[.int .i64 0, .int .i64 0, .string ⟨#[]⟩, .int .u8 0] 36)) o ⟨w.heap.size, 2, none⟩ (bkL HA.1.box)).trans ((bkC HA.1.box 2).trans rfl)
 have q3 : ∀ (o : Obj), (World.alloc ((w.alloc (.cells #[.int .i64 a1_0, .int .i32 a1_1, .bool a1_2, .bool a1_3, .bool a1_4, .string a1_5] 25)).alloc (.cells #[.int .i64 0, .int .i64 0, .string ⟨#[]⟩, .int .u8 0] 36)) o).cell? ⟨w.heap.size, 3, none⟩ = some (.bool a1_3) := fun (o : Obj) => (World.cell?_alloc_lt ((w.alloc (.cells #[.int .i64 a1_0, .int .i32 a1_1, .bool a1_2, .bool a1_3, .bool a1_4, .string a1_5] 25)).alloc (.cells #[.int .i64 0, .int .i64 0, .string ⟨#[]⟩, .int .u8 0] 36)) o ⟨w.heap.size, 3, none⟩ (bkL HA.1.box)).trans ((bkC HA.1.box 3).trans rfl)
 have q4 : ∀ (o : Obj), (World.alloc ((w.alloc (.cells #[.int .i64 a1_0, .int .i32 a1_1, .bool a1_2, .bool a1_3, .bool a1_4, .string a1_5] 25)).alloc (.cells #[.int .i64 0, .int .i64 0, .string ⟨#[]⟩, .int .u8 0] 36)) o).cell? ⟨w.heap.size, 4, none⟩ = some (.bool a1_4) := fun (o : Obj) => (World.cell?_alloc_lt ((w.alloc (.cells #[.int .i64 a1_0, .int .i32 a1_1, .bool a1_2, .bool a1_3, .bool a1_4, .string a1_5] 25)).alloc (.cells #[.int .i64 0, .int .i64 0, .string ⟨#[]⟩, .int .u8 0] 36)) o ⟨w.heap.size, 4, none⟩ (bkL HA.1.box)).trans ((bkC HA.1.box 4).trans rfl)
 have q5 : ∀ (o : Obj), (World.alloc ((w.alloc (.cells #[.int .i64 a1_0, .int .i32 a1_1, .bool a1_2, .bool a1_3, .bool a1_4, .string a1_5] 25)).alloc (.cells #[.int .i64 0, .int .i64 0, .string ⟨#[]⟩, .int .u8 0] 36)) o).cell? ⟨w.heap.size, 5, none⟩ = some (.string a1_5) := fun (o : Obj) => (World.cell?_alloc_lt ((w.alloc (.cells #[.int .i64 a1_0, .int .i32 a1_1, .bool a1_2, .bool a1_3, .bool a1_4, .string a1_5] 25)).alloc (.cells #[.int .i64 0, .int .i64 0, .string ⟨#[]⟩, .int .u8 0] 36)) o ⟨w.heap.size, 5, none⟩ (bkL HA.1.box)).trans ((bkC HA.1.box 5).trans rfl)
 go_enter Try.func29, Try.ntmps29
 go_wp2_with (first
  | (go_at_call 40; refine (bodkinref19_quoted.calls k a1_0 a1_1 a1_2 a1_3 a1_4 a1_5 r1 r2 r3 r4 _ HC.out).mono ?_; rintro e w4 ⟨rfl, hB2⟩; have HX := aM (bkB (new3_at _ _ _ ()) hB2); have HA4 := aM ((HA.1.quiet ((Below.refl _ _).alloc (Nat.le_refl _) _)).quiet hB2); clear hB2 HC; clear p0 q0 q1 q2 q3 q4 q5; have b0 : w4.cell? ⟨w.heap.size, 0, none⟩ = some (.int .i64 a1_0) := (bkC HA4.out.box 0).trans rfl; have b1 : w4.cell? ⟨w.heap.size, 1, none⟩ = some (.int .i32 a1_1) := (bkC HA4.out.box 1).trans rfl; have b2 : w4.cell? ⟨w.heap.size, 2, none⟩ = some (.bool a1_2) := (bkC HA4.out.box 2).trans rfl; have b3 : w4.cell? ⟨w.heap.size, 3, none⟩ = some (.bool a1_3) := (bkC HA4.out.box 3).trans rfl; have b4 : w4.cell? ⟨w.heap.size, 4, none⟩ = some (.bool a1_4) := (bkC HA4.out.box 4).trans rfl; have b5 : w4.cell? ⟨w.heap.size, 5, none⟩ = some (.string a1_5) := (bkC HA4.out.box 5).trans rfl; have c0 := cellS59_0 HA4.out.st.1; have f0 := bkF HA4.out.st.1 0; have c1 := cellS59_1 HA4.out.st.1; have f1 := bkF HA4.out.st.1 1; have c2 := cellS59_2 HA4.out.st.1; have f2 := bkF HA4.out.st.1 2; have x0 : w4.cell? ⟨(w.heap.size + 2), 0, none⟩ = some (.int .i64 0) := (bkC HX.out 0).trans rfl; have y0 := bkF HX.out 0; have x1 : w4.cell? ⟨(w.heap.size + 2), 1, none⟩ = some (.int .i64 0) := (bkC HX.out 1).trans rfl; have y1 := bkF HX.out 1; have x2 : w4.cell? ⟨(w.heap.size + 2), 2, none⟩ = some (.string ⟨#[]⟩) := (bkC HX.out 2).trans rfl; have y2 := bkF HX.out 2; have x3 : w4.cell? ⟨(w.heap.size + 2), 3, none⟩ = some (.int .u8 0) := (bkC HX.out 3).trans rfl; have y3 := bkF HX.out 3)
  | (go_at_call 35; refine (bodkinref19_Binder_Count.calls g s0_0 s0_1 s0_2 n1 n2 s0_0 s0_1 s0_2 w0 _ (by repeat (first | with_reducible exact HA4.out.st | refine IsS59.far ?_ hn3 _)) (by repeat (first | with_reducible exact HA4.out.bel | refine bwS ?_ hbw.out)) HN.out).mono ?_; rintro e w5 ⟨rfl, hI5, hB5, hK5⟩; have HX5 := aM (hK5.blk (g' := (w.heap.size + 2)) (show _ = some (Obj.cells #[.int .i64 r1, .int .i64 r2, .string r3, .int .u8 r4] 36 (0, 0)) from (bkU (cs := #[.int .i64 r1, .int .i64 r2, .string r3, .int .u8 0]) (bkU (cs := #[.int .i64 r1, .int .i64 r2, .string ⟨#[]⟩, .int .u8 0]) (bkU (cs := #[.int .i64 r1, .int .i64 0, .string ⟨#[]⟩, .int .u8 0]) (bkU (cs := #[.int .i64 0, .int .i64 0, .string ⟨#[]⟩, .int .u8 0]) HX.out 0 _ rfl) 1 _ rfl) 2 _ rfl) 3 _ rfl)) hn3' (by simp)); have HA5 := aM ((RKeyAt.four HA4.out hbw.out hbk.out hn3 hn5 hn6 _ _ _ _).call hlt.out hI5 hB5 hK5); clear hI5 hB5 hK5 HN HX; have HX := HX5; clear HX5; clear b0 b1 b2 b3 b4 b5 c0 f0 c1 f1 c2 f2; clear x0 y0 x1 y1 x2 y2 x3 y3; have b0 : w5.cell? ⟨w.heap.size, 0, none⟩ = some (.int .i64 a1_0) := (bkC HA5.out.box 0).trans rfl; have b1 : w5.cell? ⟨w.heap.size, 1, none⟩ = some (.int .i32 a1_1) := (bkC HA5.out.box 1).trans rfl; have b2 : w5.cell? ⟨w.heap.size, 2, none⟩ = some (.bool a1_2) := (bkC HA5.out.box 2).trans rfl; have b3 : w5.cell? ⟨w.heap.size, 3, none⟩ = some (.bool a1_3) := (bkC HA5.out.box 3).trans rfl; have b4 : w5.cell? ⟨w.heap.size, 4, none⟩ = some (.bool a1_4) := (bkC HA5.out.box 4).trans rfl; have b5 : w5.cell? ⟨w.heap.size, 5, none⟩ = some (.string a1_5) := (bkC HA5.out.box 5).trans rfl; have c0 := cellS59_0 HA5.out.st.1; have f0 := bkF HA5.out.st.1 0; have c1 := cellS59_1 HA5.out.st.1; have f1 := bkF HA5.out.st.1 1; have c2 := cellS59_2 HA5.out.st.1; have f2 := bkF HA5.out.st.1 2; have x0 : w5.cell? ⟨(w.heap.size + 2), 0, none⟩ = some (.int .i64 r1) := (bkC HX.out 0).trans rfl; have y0 := bkF HX.out 0; have x1 : w5.cell? ⟨(w.heap.size + 2), 1, none⟩ = some (.int .i64 r2) := (bkC HX.out 1).trans rfl; have y1 := bkF HX.out 1; have x2 : w5.cell? ⟨(w.heap.size + 2), 2, none⟩ = some (.string r3) := (bkC HX.out 2).trans rfl; have y2 := bkF HX.out 2; have x3 : w5.cell? ⟨(w.heap.size + 2), 3, none⟩ = some (.int .u8 r4) := (bkC HX.out 3).trans rfl; have y3 := bkF HX.out 3)
  | (go_at_call 42; refine (bodkinref19_Binder_Reset.calls g s0_0 s0_1 s0_2 ⟨#[]⟩ 0 false w0 _ (IsS59.far (IsS59.far HA5.out.st hn3 _) hn3 _) (bwS (bwS HA5.out.bel hbw.out) hbw.out) rfl).mono ?_; rintro e w6 ⟨rfl, hI5, hB5, hK5⟩; have HX6 := aM (hK5.blk (g' := (w.heap.size + 2)) (show _ = some (Obj.cells #[.int .i64 r1, .int .i64 1, .string r3, .int .u8 r4] 36 (0, 0)) from (bkU (cs := #[.int .i64 r1, .int .i64 n1, .string r3, .int .u8 r4]) (bkU (cs := #[.int .i64 r1, .int .i64 r2, .string r3, .int .u8 r4]) HX.out 1 _ rfl) 1 _ rfl)) hn3' (by simp)); have HA6 := aM ((((RKeyAt.far HA5.out hbw.out hbk.out hn3 hn5 hn6 _ _).far hbw.out hbk.out hn3 hn5 hn6 _ _)).call hlt.out hI5 hB5 hK5); clear hI5 hB5 hK5 HX; have HX := HX6; clear HX6; clear b0 b1 b2 b3 b4 b5 c0 f0 c1 f1 c2 f2; clear x0 y0 x1 y1 x2 y2 x3 y3; have b0 : w6.cell? ⟨w.heap.size, 0, none⟩ = some (.int .i64 a1_0) := (bkC HA6.out.box 0).trans rfl; have b1 : w6.cell? ⟨w.heap.size, 1, none⟩ = some (.int .i32 a1_1) := (bkC HA6.out.box 1).trans rfl; have b2 : w6.cell? ⟨w.heap.size, 2, none⟩ = some (.bool a1_2) := (bkC HA6.out.box 2).trans rfl; have b3 : w6.cell? ⟨w.heap.size, 3, none⟩ = some (.bool a1_3) := (bkC HA6.out.box 3).trans rfl; have b4 : w6.cell? ⟨w.heap.size, 4, none⟩ = some (.bool a1_4) := (bkC HA6.out.box 4).trans rfl; have b5 : w6.cell? ⟨w.heap.size, 5, none⟩ = some (.string a1_5) := (bkC HA6.out.box 5).trans rfl; have c0 := cellS59_0 HA6.out.st.1; have f0 := bkF HA6.out.st.1 0; have c1 := cellS59_1 HA6.out.st.1; have f1 := bkF HA6.out.st.1 1; have c2 := cellS59_2 HA6.out.st.1; have f2 := bkF HA6.out.st.1 2; have x0 : w6.cell? ⟨(w.heap.size + 2), 0, none⟩ = some (.int .i64 r1) := (bkC HX.out 0).trans rfl; have y0 := bkF HX.out 0; have x1 : w6.cell? ⟨(w.heap.size + 2), 1, none⟩ = some (.int .i64 1) := (bkC HX.out 1).trans rfl; have y1 := bkF HX.out 1; have x2 : w6.cell? ⟨(w.heap.size + 2), 2, none⟩ = some (.string r3) := (bkC HX.out 2).trans rfl; have y2 := bkF HX.out 2; have x3 : w6.cell? ⟨(w.heap.size + 2), 3, none⟩ = some (.int .u8 r4) := (bkC HX.out 3).trans rfl; have y3 := bkF HX.out 3; have d0 : w6.cell? ⟨w.heap.size + 1, 0, none⟩ = some (.int .i64 0) := (bkC HA6.out.res 0).trans rfl; have e0 := bkF HA6.out.res 0; have d1 : w6.cell? ⟨w.heap.size + 1, 1, none⟩ = some (.int .i64 0) := (bkC HA6.out.res 1).trans rfl; have e1 := bkF HA6.out.res 1; have d2 : w6.cell? ⟨w.heap.size + 1, 2, none⟩ = some (.string ⟨#[]⟩) := (bkC HA6.out.res 2).trans rfl; have e2 := bkF HA6.out.res 2; have d3 : w6.cell? ⟨w.heap.size + 1, 3, none⟩ = some (.int .u8 0) := (bkC HA6.out.res 3).trans rfl; have e3 := bkF HA6.out.res 3))
 refine bodyPost_ret (results_ct rfl _ _ (w.heap.size + 1) 36 #[.int .i64 r1, .int .i64 1, .string r3, .int .u8 r4] (0, 0) _ rfl ?_ Try.underlying36 rfl (by kernel_rfl)) rfl ?_
 ·exact (bkU (cs := #[.int .i64 r1, .int .i64 1, .string r3, .int .u8 0]) (bkU (cs := #[.int .i64 r1, .int .i64 1, .string ⟨#[]⟩, .int .u8 0]) (bkU (cs := #[.int .i64 r1, .int .i64 0, .string ⟨#[]⟩, .int .u8 0]) (bkU (cs := #[.int .i64 0, .int .i64 0, .string ⟨#[]⟩, .int .u8 0]) HA6.out.res 0 _ rfl) 1 _ rfl) 2 _ rfl) 3 _ rfl)
 refine ⟨rfl, ?_, ?_, ?_⟩
 ·exact IsS59.far (IsS59.far (IsS59.far (IsS59.far HA6.out.st hne2 _) hne2 _) hne2 _) hne2 _
 ·have hz : w0.heap.size ≤ w.heap.size + 1 := by have := HBS.out; omega
  exact bwS (bwS (bwS (bwS HA6.out.bel hz) hz) hz) hz
 have hz : w.heap.size ≤ w.heap.size + 1 := by omega
 exact keep_far (keep_far (keep_far (keep_far HA6.out.keep hz _) hz _) hz _) hz _

set_option maxHeartbeats 1000000 in
set_option maxRecDepth 100000 in
theorem rkey_second (k : Nat) (g : Nat) (s0_0 : ByteArray) (s0_1 : Int) (s0_2 : Bool) (a1_0 : Int) (a1_1 : Int) (a1_2 : Bool) (a1_3 : Bool) (a1_4 : Bool) (a1_5 : ByteArray) (r1 r2 : Int) (r3 : ByteArray) (r4 : Int) (n1 : Int) (n2 : Bool) (w0 w : World) (hI : IsS59 w0 w g s0_0 s0_1 s0_2) (hB : Below w0.heap.size w0 w) (he : (s0_0.toList == ([] : List UInt8)) = false) (he' : (s0_0.toList != ([] : List UInt8)) = true) (hq : (s0_0.toList == ([113] : List UInt8)) = false) (hc : bodkinref19_second.f k s0_0 a1_0 a1_1 a1_2 a1_3 a1_4 a1_5 = some (r1, r2, r3, r4)) (hn : bodkinref19_Binder_Count.f s0_0 s0_1 s0_2 = some (n1, n2, s0_0, s0_1, s0_2)) (hr : (r1 == 37) = false) :
    Calls Try.prog 29 #[.pointer (some ⟨g, 0, none⟩), .agg #[.int .i64 a1_0, .int .i32 a1_1, .bool a1_2, .bool a1_3, .bool a1_4, .string a1_5]] w fun e w' => e = .returned (.tuple #[.agg #[.int .i64 r1, .int .i64 n1, .string r3, .int .u8 r4], .bool true]) ∧ IsS59 w0 w' g ⟨#[]⟩ 0 false ∧ Below w0.heap.size w0 w' ∧ KeepBut w w' g none := by
 have HS0 := aM hI.1
 have hlt := aM hI.lt
 have hge := aM hI.ge
 have HA := aM (RKeyAt.start (a1_0 := a1_0) (a1_1 := a1_1) (a1_2 := a1_2) (a1_3 := a1_3) (a1_4 := a1_4) (a1_5 := a1_5) hI hB)
 have HBS := aM hB.size
 clear hI hB
 have HC := aM hc
 have HN := aM hn
 clear hc hn
 have hne1 : g ≠ w.heap.size := by have := hlt.out; omega
 have hne2 : g ≠ w.heap.size + 1 := by have := hlt.out; omega
 have hne1' : w.heap.size ≠ g := by have := hlt.out; omega
 have hne2' : w.heap.size + 1 ≠ g := by have := hlt.out; omega
 have hst : ∀ o1 o2 : Obj, ((w.alloc o1).alloc o2).heap[g]? = some (.cells #[.string s0_0, .int .i64 s0_1, .bool s0_2] 59 (0, 0)) := fun o1 o2 => bkA (bkA HS0.out _) _
 have z0 : ∀ o1 o2 : Obj, ((w.alloc o1).alloc o2).cell? ⟨g, 0, none⟩ = some (.string s0_0) := fun o1 o2 => (bkC (hst o1 o2) 0).trans rfl
 clear hst
 have hz2 : ((w.alloc (.cells #[.int .i64 a1_0, .int .i32 a1_1, .bool a1_2, .bool a1_3, .bool a1_4, .string a1_5] 25)).alloc (.cells #[.int .i64 0, .int .i64 0, .string ⟨#[]⟩, .int .u8 0] 36)).heap.size = w.heap.size + 2 := by simp
 have hn3 : g ≠ (w.heap.size + 2) := Nat.ne_of_lt (Nat.lt_of_lt_of_le hlt.out (Nat.le_add_right _ _))
 have hn3' : (w.heap.size + 2) ≠ g := Nat.ne_of_gt (Nat.lt_of_lt_of_le hlt.out (Nat.le_add_right _ _))
 have hn5 : w.heap.size ≠ (w.heap.size + 2) := by omega
 have hn6 : w.heap.size + 1 ≠ (w.heap.size + 2) := by omega
 have hbw := aM (show w0.heap.size ≤ (w.heap.size + 2) from Nat.le_trans HBS.out (Nat.le_add_right _ _))
 have hbk := aM (show w.heap.size ≤ (w.heap.size + 2) from by omega)
 have HAs := HA
 have p0 := fun (o : Obj) => (World.cell?_alloc_lt ((w.alloc (.cells #[.int .i64 a1_0, .int .i32 a1_1, .bool a1_2, .bool a1_3, .bool a1_4, .string a1_5] 25)).alloc (.cells #[.int .i64 0, .int .i64 0, .string ⟨#[]⟩, .int .u8 0] 36)) o ⟨g, 0, none⟩ HA.1.st.lt).trans (cellS59_0 HA.1.st.1)
 have q0 : ∀ (o : Obj), (World.alloc ((w.alloc (.cells #[.int .i64 a1_0, .int .i32 a1_1, .bool a1_2, .bool a1_3, .bool a1_4, .string a1_5] 25)).alloc (.cells #[.int .i64 0, .int .i64 0, .string ⟨#[]⟩, .int .u8 0] 36)) o).cell? ⟨w.heap.size, 0, none⟩ = some (.int .i64 a1_0) := fun (o : Obj) => (World.cell?_alloc_lt ((w.alloc (.cells #[.int .i64 a1_0, .int .i32 a1_1, .bool a1_2, .bool a1_3, .bool a1_4, .string a1_5] 25)).alloc (.cells #[.int .i64 0, .int .i64 0, .string ⟨#[]⟩, .int .u8 0] 36)) o ⟨w.heap.size, 0, none⟩ (bkL HA.1.box)).trans ((bkC HA.1.box 0).trans rfl)
 have q1 : ∀ (o : Obj), (World.alloc ((w.alloc (.cells #[.int .i64 a1_0, .int .i32 a1_1, .bool a1_2, .bool a1_3, .bool a1_4, .string a1_5] 25)).alloc (.cells #[.int .i64 0, .int .i64 0, .string ⟨#[]⟩, .int .u8 0] 36)) o).cell? ⟨w.heap.size, 1, none⟩ = some (.int .i32 a1_1) := fun (o : Obj) => (World.cell?_alloc_lt ((w.alloc (.cells #[.int .i64 a1_0, .int .i32 a1_1, .bool a1_2, .bool a1_3, .bool a1_4, .string a1_5] 25)).alloc (.cells #[.int .i64 0, .int .i64 0, .string ⟨#[]⟩, .int .u8 0] 36)) o ⟨w.heap.size, 1, none⟩ (bkL HA.1.box)).trans ((bkC HA.1.box 1).trans rfl)
 have q2 : ∀ (o : Obj), (World.alloc ((w.alloc (.cells #[.int .i64 a1_0, .int .i32 a1_1, .bool a1_2, .bool a1_3, .bool a1_4, .string a1_5] 25)).alloc (.cells #[.int .i64 0, .int .i64 0, .string ⟨#[]⟩, .int .u8 0] 36)) o).cell? ⟨w.heap.size, 2, none⟩ = some (.bool a1_2) := fun (o : Obj) => (World.cell?_alloc_lt ((w.alloc (.cells #[.int .i64 a1_0, .int .i32 a1_1, .bool a1_2, .bool a1_3, .bool a1_4, .string a1_5] 25)).alloc (.cells #[.int .i64 0, .int .i64 0, .string ⟨#[]⟩, .int .u8 0] 36)) o ⟨w.heap.size, 2, none⟩ (bkL HA.1.box)).trans ((bkC HA.1.box 2).trans rfl)
 have q3 : ∀ (o : Obj), (World.alloc ((w.alloc (.cells #[.int .i64 a1_0, .int .i32 a1_1, .bool a1_2, .bool a1_3, .bool a1_4, .string a1_5] 25)).alloc (.cells #[.int .i64 0, .int .i64 0, .string ⟨#[]⟩, .int .u8 0] 36)) o).cell? ⟨w.heap.size, 3, none⟩ = some (.bool a1_3) := fun (o : Obj) => (World.cell?_alloc_lt ((w.alloc (.cells #[.int .i64 a1_0, .int .i32 a1_1, .bool a1_2, .bool a1_3, .bool a1_4, .string a1_5] 25)).alloc (.cells #[.int .i64 0, .int .i64 0, .string ⟨#[]⟩, .int .u8 0] 36)) o ⟨w.heap.size, 3, none⟩ (bkL HA.1.box)).trans ((bkC HA.1.box 3).trans rfl)
 have q4 : ∀ (o : Obj), (World.alloc ((w.alloc (.cells #[.int .i64 a1_0, .int .i32 a1_1, .bool a1_2, .bool a1_3, .bool a1_4, .string a1_5] 25)).alloc (.cells #[.int .i64 0, .int .i64 0, .string ⟨#[]⟩, .int .u8 0] 36)) o).cell? ⟨w.heap.size, 4, none⟩ = some (.bool a1_4) := fun (o : Obj) => (World.cell?_alloc_lt ((w.alloc (.cells #[.int .i64 a1_0, .int .i32 a1_1, .bool a1_2, .bool a1_3, .bool a1_4, .string a1_5] 25)).alloc (.cells #[.int .i64 0, .int .i64 0, .string ⟨#[]⟩, .int .u8 0] 36)) o ⟨w.heap.size, 4, none⟩ (bkL HA.1.box)).trans ((bkC HA.1.box 4).trans rfl)
 have q5 : ∀ (o : Obj), (World.alloc ((w.alloc (.cells #[.int .i64 a1_0, .int .i32 a1_1, .bool a1_2, .bool a1_3, .bool a1_4, .string a1_5] 25)).alloc (.cells #[.int .i64 0, .int .i64 0, .string ⟨#[]⟩, .int .u8 0] 36)) o).cell? ⟨w.heap.size, 5, none⟩ = some (.string a1_5) := fun (o : Obj) => (World.cell?_alloc_lt ((w.alloc (.cells #[.int .i64 a1_0, .int .i32 a1_1, .bool a1_2, .bool a1_3, .bool a1_4, .string a1_5] 25)).alloc (.cells #[.int .i64 0, .int .i64 0, .string ⟨#[]⟩, .int .u8 0] 36)) o ⟨w.heap.size, 5, none⟩ (bkL HA.1.box)).trans ((bkC HA.1.box 5).trans rfl)
 go_enter Try.func29, Try.ntmps29
 go_wp2
 refine wp_region_still_tail 5 (by kernel_rfl) (by kernel_rfl) ?_
 simp only [List.take_succ_cons, List.take_zero, List.drop_succ_cons, List.drop_zero]
 change wpStill _ _ (World.drew (World.alloc ((w.alloc (.cells #[.int .i64 a1_0, .int .i32 a1_1, .bool a1_2, .bool a1_3, .bool a1_4, .string a1_5] 25)).alloc (.cells #[.int .i64 0, .int .i64 0, .string ⟨#[]⟩, .int .u8 0] 36)) (.cells #[.int .i64 0, .int .i64 0, .string ⟨#[]⟩, .int .u8 0] 36))) (fun a' => wpList _ _ _ _ a' (World.drew (World.alloc ((w.alloc (.cells #[.int .i64 a1_0, .int .i32 a1_1, .bool a1_2, .bool a1_3, .bool a1_4, .string a1_5] 25)).alloc (.cells #[.int .i64 0, .int .i64 0, .string ⟨#[]⟩, .int .u8 0] 36)) (.cells #[.int .i64 0, .int .i64 0, .string ⟨#[]⟩, .int .u8 0] 36)))) _ _
 have hAT : RKeyAt w0 w (World.drew (World.alloc ((w.alloc (.cells #[.int .i64 a1_0, .int .i32 a1_1, .bool a1_2, .bool a1_3, .bool a1_4, .string a1_5] 25)).alloc (.cells #[.int .i64 0, .int .i64 0, .string ⟨#[]⟩, .int .u8 0] 36)) (.cells #[.int .i64 0, .int .i64 0, .string ⟨#[]⟩, .int .u8 0] 36))) g s0_0 s0_1 s0_2 a1_0 a1_1 a1_2 a1_3 a1_4 a1_5 := (HA.1.quiet ((Below.refl _ _).alloc (Nat.le_refl _) _)).quiet (Below.refl _ _).drew
 have hXT : (World.drew (World.alloc ((w.alloc (.cells #[.int .i64 a1_0, .int .i32 a1_1, .bool a1_2, .bool a1_3, .bool a1_4, .string a1_5] 25)).alloc (.cells #[.int .i64 0, .int .i64 0, .string ⟨#[]⟩, .int .u8 0] 36)) (.cells #[.int .i64 0, .int .i64 0, .string ⟨#[]⟩, .int .u8 0] 36))).heap[w.heap.size + 2]? = some (.cells #[.int .i64 0, .int .i64 0, .string ⟨#[]⟩, .int .u8 0] 36) := new3_at _ _ _ ()
 generalize World.drew (World.alloc ((w.alloc (.cells #[.int .i64 a1_0, .int .i32 a1_1, .bool a1_2, .bool a1_3, .bool a1_4, .string a1_5] 25)).alloc (.cells #[.int .i64 0, .int .i64 0, .string ⟨#[]⟩, .int .u8 0] 36)) (.cells #[.int .i64 0, .int .i64 0, .string ⟨#[]⟩, .int .u8 0] 36)) = wT at hAT hXT ⊢
 have HAT := aM hAT
 have HXT := aM hXT
 clear hAT hXT z0 HA HAs p0 q0 q1 q2 q3 q4 q5
 have b0 : wT.cell? ⟨w.heap.size, 0, none⟩ = some (.int .i64 a1_0) := (bkC HAT.out.box 0).trans rfl
 have b1 : wT.cell? ⟨w.heap.size, 1, none⟩ = some (.int .i32 a1_1) := (bkC HAT.out.box 1).trans rfl
 have b2 : wT.cell? ⟨w.heap.size, 2, none⟩ = some (.bool a1_2) := (bkC HAT.out.box 2).trans rfl
 have b3 : wT.cell? ⟨w.heap.size, 3, none⟩ = some (.bool a1_3) := (bkC HAT.out.box 3).trans rfl
 have b4 : wT.cell? ⟨w.heap.size, 4, none⟩ = some (.bool a1_4) := (bkC HAT.out.box 4).trans rfl
 have b5 : wT.cell? ⟨w.heap.size, 5, none⟩ = some (.string a1_5) := (bkC HAT.out.box 5).trans rfl
 have c0 := cellS59_0 HAT.out.st.1
 have f0 := bkF HAT.out.st.1 0
 have c1 := cellS59_1 HAT.out.st.1
 have f1 := bkF HAT.out.st.1 1
 have c2 := cellS59_2 HAT.out.st.1
 have f2 := bkF HAT.out.st.1 2
 repeat still_step
 refine wpStill_nil ?_
 go_wp2_with (first
  | (go_at_call 41; refine (bodkinref19_second.calls k s0_0 a1_0 a1_1 a1_2 a1_3 a1_4 a1_5 r1 r2 r3 r4 _ HC.out).mono ?_; rintro e w4 ⟨rfl, hB2⟩; have HX := aM (bkB HXT.out hB2); have HA4 := aM (HAT.out.quiet hB2); clear hB2 HC HXT HAT; clear b0 b1 b2 b3 b4 b5 c0 f0 c1 f1 c2 f2; have b0 : w4.cell? ⟨w.heap.size, 0, none⟩ = some (.int .i64 a1_0) := (bkC HA4.out.box 0).trans rfl; have b1 : w4.cell? ⟨w.heap.size, 1, none⟩ = some (.int .i32 a1_1) := (bkC HA4.out.box 1).trans rfl; have b2 : w4.cell? ⟨w.heap.size, 2, none⟩ = some (.bool a1_2) := (bkC HA4.out.box 2).trans rfl; have b3 : w4.cell? ⟨w.heap.size, 3, none⟩ = some (.bool a1_3) := (bkC HA4.out.box 3).trans rfl; have b4 : w4.cell? ⟨w.heap.size, 4, none⟩ = some (.bool a1_4) := (bkC HA4.out.box 4).trans rfl; have b5 : w4.cell? ⟨w.heap.size, 5, none⟩ = some (.string a1_5) := (bkC HA4.out.box 5).trans rfl; have c0 := cellS59_0 HA4.out.st.1; have f0 := bkF HA4.out.st.1 0; have c1 := cellS59_1 HA4.out.st.1; have f1 := bkF HA4.out.st.1 1; have c2 := cellS59_2 HA4.out.st.1; have f2 := bkF HA4.out.st.1 2; have x0 : w4.cell? ⟨(w.heap.size + 2), 0, none⟩ = some (.int .i64 0) := (bkC HX.out 0).trans rfl; have y0 := bkF HX.out 0; have x1 : w4.cell? ⟨(w.heap.size + 2), 1, none⟩ = some (.int .i64 0) := (bkC HX.out 1).trans rfl; have y1 := bkF HX.out 1; have x2 : w4.cell? ⟨(w.heap.size + 2), 2, none⟩ = some (.string ⟨#[]⟩) := (bkC HX.out 2).trans rfl; have y2 := bkF HX.out 2; have x3 : w4.cell? ⟨(w.heap.size + 2), 3, none⟩ = some (.int .u8 0) := (bkC HX.out 3).trans rfl; have y3 := bkF HX.out 3)
  | (go_at_call 35; refine (bodkinref19_Binder_Count.calls g s0_0 s0_1 s0_2 n1 n2 s0_0 s0_1 s0_2 w0 _ (by repeat (first | with_reducible exact HA4.out.st | refine IsS59.far ?_ hn3 _)) (by repeat (first | with_reducible exact HA4.out.bel | refine bwS ?_ hbw.out)) HN.out).mono ?_; rintro e w5 ⟨rfl, hI5, hB5, hK5⟩; have HX5 := aM (hK5.blk (g' := (w.heap.size + 2)) (show _ = some (Obj.cells #[.int .i64 r1, .int .i64 r2, .string r3, .int .u8 r4] 36 (0, 0)) from (bkU (cs := #[.int .i64 r1, .int .i64 r2, .string r3, .int .u8 0]) (bkU (cs := #[.int .i64 r1, .int .i64 r2, .string ⟨#[]⟩, .int .u8 0]) (bkU (cs := #[.int .i64 r1, .int .i64 0, .string ⟨#[]⟩, .int .u8 0]) (bkU (cs := #[.int .i64 0, .int .i64 0, .string ⟨#[]⟩, .int .u8 0]) HX.out 0 _ rfl) 1 _ rfl) 2 _ rfl) 3 _ rfl)) hn3' (by simp)); have HA5 := aM ((RKeyAt.four HA4.out hbw.out hbk.out hn3 hn5 hn6 _ _ _ _).call hlt.out hI5 hB5 hK5); clear hI5 hB5 hK5 HN HX; have HX := HX5; clear HX5; clear b0 b1 b2 b3 b4 b5 c0 f0 c1 f1 c2 f2; clear x0 y0 x1 y1 x2 y2 x3 y3; have b0 : w5.cell? ⟨w.heap.size, 0, none⟩ = some (.int .i64 a1_0) := (bkC HA5.out.box 0).trans rfl; have b1 : w5.cell? ⟨w.heap.size, 1, none⟩ = some (.int .i32 a1_1) := (bkC HA5.out.box 1).trans rfl; have b2 : w5.cell? ⟨w.heap.size, 2, none⟩ = some (.bool a1_2) := (bkC HA5.out.box 2).trans rfl; have b3 : w5.cell? ⟨w.heap.size, 3, none⟩ = some (.bool a1_3) := (bkC HA5.out.box 3).trans rfl; have b4 : w5.cell? ⟨w.heap.size, 4, none⟩ = some (.bool a1_4) := (bkC HA5.out.box 4).trans rfl; have b5 : w5.cell? ⟨w.heap.size, 5, none⟩ = some (.string a1_5) := (bkC HA5.out.box 5).trans rfl; have c0 := cellS59_0 HA5.out.st.1; have f0 := bkF HA5.out.st.1 0; have c1 := cellS59_1 HA5.out.st.1; have f1 := bkF HA5.out.st.1 1; have c2 := cellS59_2 HA5.out.st.1; have f2 := bkF HA5.out.st.1 2; have x0 : w5.cell? ⟨(w.heap.size + 2), 0, none⟩ = some (.int .i64 r1) := (bkC HX.out 0).trans rfl; have y0 := bkF HX.out 0; have x1 : w5.cell? ⟨(w.heap.size + 2), 1, none⟩ = some (.int .i64 r2) := (bkC HX.out 1).trans rfl; have y1 := bkF HX.out 1; have x2 : w5.cell? ⟨(w.heap.size + 2), 2, none⟩ = some (.string r3) := (bkC HX.out 2).trans rfl; have y2 := bkF HX.out 2; have x3 : w5.cell? ⟨(w.heap.size + 2), 3, none⟩ = some (.int .u8 r4) := (bkC HX.out 3).trans rfl; have y3 := bkF HX.out 3)
  | (go_at_call 42; refine (bodkinref19_Binder_Reset.calls g s0_0 s0_1 s0_2 ⟨#[]⟩ 0 false w0 _ (IsS59.far HA5.out.st hn3 _) (bwS HA5.out.bel hbw.out) rfl).mono ?_; rintro e w6 ⟨rfl, hI5, hB5, hK5⟩; have HX6 := aM (hK5.blk (g' := (w.heap.size + 2)) (show _ = some (Obj.cells #[.int .i64 r1, .int .i64 n1, .string r3, .int .u8 r4] 36 (0, 0)) from (bkU (cs := #[.int .i64 r1, .int .i64 r2, .string r3, .int .u8 r4]) HX.out 1 _ rfl)) hn3' (by simp)); have HA6 := aM (((RKeyAt.far HA5.out hbw.out hbk.out hn3 hn5 hn6 _ _)).call hlt.out hI5 hB5 hK5); clear hI5 hB5 hK5 HX; have HX := HX6; clear HX6; clear b0 b1 b2 b3 b4 b5 c0 f0 c1 f1 c2 f2; clear x0 y0 x1 y1 x2 y2 x3 y3; have b0 : w6.cell? ⟨w.heap.size, 0, none⟩ = some (.int .i64 a1_0) := (bkC HA6.out.box 0).trans rfl; have b1 : w6.cell? ⟨w.heap.size, 1, none⟩ = some (.int .i32 a1_1) := (bkC HA6.out.box 1).trans rfl; have b2 : w6.cell? ⟨w.heap.size, 2, none⟩ = some (.bool a1_2) := (bkC HA6.out.box 2).trans rfl; have b3 : w6.cell? ⟨w.heap.size, 3, none⟩ = some (.bool a1_3) := (bkC HA6.out.box 3).trans rfl; have b4 : w6.cell? ⟨w.heap.size, 4, none⟩ = some (.bool a1_4) := (bkC HA6.out.box 4).trans rfl; have b5 : w6.cell? ⟨w.heap.size, 5, none⟩ = some (.string a1_5) := (bkC HA6.out.box 5).trans rfl; have c0 := cellS59_0 HA6.out.st.1; have f0 := bkF HA6.out.st.1 0; have c1 := cellS59_1 HA6.out.st.1; have f1 := bkF HA6.out.st.1 1; have c2 := cellS59_2 HA6.out.st.1; have f2 := bkF HA6.out.st.1 2; have x0 : w6.cell? ⟨(w.heap.size + 2), 0, none⟩ = some (.int .i64 r1) := (bkC HX.out 0).trans rfl; have y0 := bkF HX.out 0; have x1 : w6.cell? ⟨(w.heap.size + 2), 1, none⟩ = some (.int .i64 n1) := (bkC HX.out 1).trans rfl; have y1 := bkF HX.out 1; have x2 : w6.cell? ⟨(w.heap.size + 2), 2, none⟩ = some (.string r3) := (bkC HX.out 2).trans rfl; have y2 := bkF HX.out 2; have x3 : w6.cell? ⟨(w.heap.size + 2), 3, none⟩ = some (.int .u8 r4) := (bkC HX.out 3).trans rfl; have y3 := bkF HX.out 3; have d0 : w6.cell? ⟨w.heap.size + 1, 0, none⟩ = some (.int .i64 0) := (bkC HA6.out.res 0).trans rfl; have e0 := bkF HA6.out.res 0; have d1 : w6.cell? ⟨w.heap.size + 1, 1, none⟩ = some (.int .i64 0) := (bkC HA6.out.res 1).trans rfl; have e1 := bkF HA6.out.res 1; have d2 : w6.cell? ⟨w.heap.size + 1, 2, none⟩ = some (.string ⟨#[]⟩) := (bkC HA6.out.res 2).trans rfl; have e2 := bkF HA6.out.res 2; have d3 : w6.cell? ⟨w.heap.size + 1, 3, none⟩ = some (.int .u8 0) := (bkC HA6.out.res 3).trans rfl; have e3 := bkF HA6.out.res 3))
 refine bodyPost_ret (results_ct rfl _ _ (w.heap.size + 1) 36 #[.int .i64 r1, .int .i64 n1, .string r3, .int .u8 r4] (0, 0) _ rfl ?_ Try.underlying36 rfl (by kernel_rfl)) rfl ?_
 ·exact (bkU (cs := #[.int .i64 r1, .int .i64 n1, .string r3, .int .u8 0]) (bkU (cs := #[.int .i64 r1, .int .i64 n1, .string ⟨#[]⟩, .int .u8 0]) (bkU (cs := #[.int .i64 r1, .int .i64 0, .string ⟨#[]⟩, .int .u8 0]) (bkU (cs := #[.int .i64 0, .int .i64 0, .string ⟨#[]⟩, .int .u8 0]) HA6.out.res 0 _ rfl) 1 _ rfl) 2 _ rfl) 3 _ rfl)
 refine ⟨rfl, ?_, ?_, ?_⟩
 ·exact IsS59.far (IsS59.far (IsS59.far (IsS59.far HA6.out.st hne2 _) hne2 _) hne2 _) hne2 _
 ·have hz : w0.heap.size ≤ w.heap.size + 1 := by have := HBS.out; omega
  exact bwS (bwS (bwS (bwS HA6.out.bel hz) hz) hz) hz
 have hz : w.heap.size ≤ w.heap.size + 1 := by omega
 exact keep_far (keep_far (keep_far (keep_far HA6.out.keep hz _) hz _) hz _) hz _

set_option maxHeartbeats 1000000 in
set_option maxRecDepth 100000 in
theorem rkey_second_abort (k : Nat) (g : Nat) (s0_0 : ByteArray) (s0_1 : Int) (s0_2 : Bool) (a1_0 : Int) (a1_1 : Int) (a1_2 : Bool) (a1_3 : Bool) (a1_4 : Bool) (a1_5 : ByteArray) (r1 r2 : Int) (r3 : ByteArray) (r4 : Int) (n1 : Int) (n2 : Bool) (w0 w : World) (hI : IsS59 w0 w g s0_0 s0_1 s0_2) (hB : Below w0.heap.size w0 w) (he : (s0_0.toList == ([] : List UInt8)) = false) (he' : (s0_0.toList != ([] : List UInt8)) = true) (hq : (s0_0.toList == ([113] : List UInt8)) = false) (hc : bodkinref19_second.f k s0_0 a1_0 a1_1 a1_2 a1_3 a1_4 a1_5 = some (r1, r2, r3, r4)) (hn : bodkinref19_Binder_Count.f s0_0 s0_1 s0_2 = some (n1, n2, s0_0, s0_1, s0_2)) (hr : (r1 == 37) = true) :
    Calls Try.prog 29 #[.pointer (some ⟨g, 0, none⟩), .agg #[.int .i64 a1_0, .int .i32 a1_1, .bool a1_2, .bool a1_3, .bool a1_4, .string a1_5]] w fun e w' => e = .returned (.tuple #[.agg #[.int .i64 r1, .int .i64 1, .string r3, .int .u8 r4], .bool true]) ∧ IsS59 w0 w' g ⟨#[]⟩ 0 false ∧ Below w0.heap.size w0 w' ∧ KeepBut w w' g none := by
 have HS0 := aM hI.1
 have hlt := aM hI.lt
 have hge := aM hI.ge
 have HA := aM (RKeyAt.start (a1_0 := a1_0) (a1_1 := a1_1) (a1_2 := a1_2) (a1_3 := a1_3) (a1_4 := a1_4) (a1_5 := a1_5) hI hB)
 have HBS := aM hB.size
 clear hI hB
 have HC := aM hc
 have HN := aM hn
 clear hc hn
 have hne1 : g ≠ w.heap.size := by have := hlt.out; omega
 have hne2 : g ≠ w.heap.size + 1 := by have := hlt.out; omega
 have hne1' : w.heap.size ≠ g := by have := hlt.out; omega
 have hne2' : w.heap.size + 1 ≠ g := by have := hlt.out; omega
 have hst : ∀ o1 o2 : Obj, ((w.alloc o1).alloc o2).heap[g]? = some (.cells #[.string s0_0, .int .i64 s0_1, .bool s0_2] 59 (0, 0)) := fun o1 o2 => bkA (bkA HS0.out _) _
 have z0 : ∀ o1 o2 : Obj, ((w.alloc o1).alloc o2).cell? ⟨g, 0, none⟩ = some (.string s0_0) := fun o1 o2 => (bkC (hst o1 o2) 0).trans rfl
 clear hst
 have hz2 : ((w.alloc (.cells #[.int .i64 a1_0, .int .i32 a1_1, .bool a1_2, .bool a1_3, .bool a1_4, .string a1_5] 25)).alloc (.cells #[.int .i64 0, .int .i64 0, .string ⟨#[]⟩, .int .u8 0] 36)).heap.size = w.heap.size + 2 := by simp
 have hn3 : g ≠ (w.heap.size + 2) := Nat.ne_of_lt (Nat.lt_of_lt_of_le hlt.out (Nat.le_add_right _ _))
 have hn3' : (w.heap.size + 2) ≠ g := Nat.ne_of_gt (Nat.lt_of_lt_of_le hlt.out (Nat.le_add_right _ _))
 have hn5 : w.heap.size ≠ (w.heap.size + 2) := by omega
 have hn6 : w.heap.size + 1 ≠ (w.heap.size + 2) := by omega
 have hbw := aM (show w0.heap.size ≤ (w.heap.size + 2) from Nat.le_trans HBS.out (Nat.le_add_right _ _))
 have hbk := aM (show w.heap.size ≤ (w.heap.size + 2) from by omega)
 have HAs := HA
 have p0 := fun (o : Obj) => (World.cell?_alloc_lt ((w.alloc (.cells #[.int .i64 a1_0, .int .i32 a1_1, .bool a1_2, .bool a1_3, .bool a1_4, .string a1_5] 25)).alloc (.cells #[.int .i64 0, .int .i64 0, .string ⟨#[]⟩, .int .u8 0] 36)) o ⟨g, 0, none⟩ HA.1.st.lt).trans (cellS59_0 HA.1.st.1)
 have q0 : ∀ (o : Obj), (World.alloc ((w.alloc (.cells #[.int .i64 a1_0, .int .i32 a1_1, .bool a1_2, .bool a1_3, .bool a1_4, .string a1_5] 25)).alloc (.cells #[.int .i64 0, .int .i64 0, .string ⟨#[]⟩, .int .u8 0] 36)) o).cell? ⟨w.heap.size, 0, none⟩ = some (.int .i64 a1_0) := fun (o : Obj) => (World.cell?_alloc_lt ((w.alloc (.cells #[.int .i64 a1_0, .int .i32 a1_1, .bool a1_2, .bool a1_3, .bool a1_4, .string a1_5] 25)).alloc (.cells #[.int .i64 0, .int .i64 0, .string ⟨#[]⟩, .int .u8 0] 36)) o ⟨w.heap.size, 0, none⟩ (bkL HA.1.box)).trans ((bkC HA.1.box 0).trans rfl)
 have q1 : ∀ (o : Obj), (World.alloc ((w.alloc (.cells #[.int .i64 a1_0, .int .i32 a1_1, .bool a1_2, .bool a1_3, .bool a1_4, .string a1_5] 25)).alloc (.cells #[.int .i64 0, .int .i64 0, .string ⟨#[]⟩, .int .u8 0] 36)) o).cell? ⟨w.heap.size, 1, none⟩ = some (.int .i32 a1_1) := fun (o : Obj) => (World.cell?_alloc_lt ((w.alloc (.cells #[.int .i64 a1_0, .int .i32 a1_1, .bool a1_2, .bool a1_3, .bool a1_4, .string a1_5] 25)).alloc (.cells #[.int .i64 0, .int .i64 0, .string ⟨#[]⟩, .int .u8 0] 36)) o ⟨w.heap.size, 1, none⟩ (bkL HA.1.box)).trans ((bkC HA.1.box 1).trans rfl)
 have q2 : ∀ (o : Obj), (World.alloc ((w.alloc (.cells #[.int .i64 a1_0, .int .i32 a1_1, .bool a1_2, .bool a1_3, .bool a1_4, .string a1_5] 25)).alloc (.cells #[.int .i64 0, .int .i64 0, .string ⟨#[]⟩, .int .u8 0] 36)) o).cell? ⟨w.heap.size, 2, none⟩ = some (.bool a1_2) := fun (o : Obj) => (World.cell?_alloc_lt ((w.alloc (.cells #[.int .i64 a1_0, .int .i32 a1_1, .bool a1_2, .bool a1_3, .bool a1_4, .string a1_5] 25)).alloc (.cells #[.int .i64 0, .int .i64 0, .string ⟨#[]⟩, .int .u8 0] 36)) o ⟨w.heap.size, 2, none⟩ (bkL HA.1.box)).trans ((bkC HA.1.box 2).trans rfl)
 have q3 : ∀ (o : Obj), (World.alloc ((w.alloc (.cells #[.int .i64 a1_0, .int .i32 a1_1, .bool a1_2, .bool a1_3, .bool a1_4, .string a1_5] 25)).alloc (.cells #[.int .i64 0, .int .i64 0, .string ⟨#[]⟩, .int .u8 0] 36)) o).cell? ⟨w.heap.size, 3, none⟩ = some (.bool a1_3) := fun (o : Obj) => (World.cell?_alloc_lt ((w.alloc (.cells #[.int .i64 a1_0, .int .i32 a1_1, .bool a1_2, .bool a1_3, .bool a1_4, .string a1_5] 25)).alloc (.cells #[.int .i64 0, .int .i64 0, .string ⟨#[]⟩, .int .u8 0] 36)) o ⟨w.heap.size, 3, none⟩ (bkL HA.1.box)).trans ((bkC HA.1.box 3).trans rfl)
 have q4 : ∀ (o : Obj), (World.alloc ((w.alloc (.cells #[.int .i64 a1_0, .int .i32 a1_1, .bool a1_2, .bool a1_3, .bool a1_4, .string a1_5] 25)).alloc (.cells #[.int .i64 0, .int .i64 0, .string ⟨#[]⟩, .int .u8 0] 36)) o).cell? ⟨w.heap.size, 4, none⟩ = some (.bool a1_4) := fun (o : Obj) => (World.cell?_alloc_lt ((w.alloc (.cells #[.int .i64 a1_0, .int .i32 a1_1, .bool a1_2, .bool a1_3, .bool a1_4, .string a1_5] 25)).alloc (.cells #[.int .i64 0, .int .i64 0, .string ⟨#[]⟩, .int .u8 0] 36)) o ⟨w.heap.size, 4, none⟩ (bkL HA.1.box)).trans ((bkC HA.1.box 4).trans rfl)
 have q5 : ∀ (o : Obj), (World.alloc ((w.alloc (.cells #[.int .i64 a1_0, .int .i32 a1_1, .bool a1_2, .bool a1_3, .bool a1_4, .string a1_5] 25)).alloc (.cells #[.int .i64 0, .int .i64 0, .string ⟨#[]⟩, .int .u8 0] 36)) o).cell? ⟨w.heap.size, 5, none⟩ = some (.string a1_5) := fun (o : Obj) => (World.cell?_alloc_lt ((w.alloc (.cells #[.int .i64 a1_0, .int .i32 a1_1, .bool a1_2, .bool a1_3, .bool a1_4, .string a1_5] 25)).alloc (.cells #[.int .i64 0, .int .i64 0, .string ⟨#[]⟩, .int .u8 0] 36)) o ⟨w.heap.size, 5, none⟩ (bkL HA.1.box)).trans ((bkC HA.1.box 5).trans rfl)
 go_enter Try.func29, Try.ntmps29
 go_wp2
 refine wp_region_still_tail 5 (by kernel_rfl) (by kernel_rfl) ?_
 simp only [List.take_succ_cons, List.take_zero, List.drop_succ_cons, List.drop_zero]
 change wpStill _ _ (World.drew (World.alloc ((w.alloc (.cells #[.int .i64 a1_0, .int .i32 a1_1, .bool a1_2, .bool a1_3, .bool a1_4, .string a1_5] 25)).alloc (.cells #[.int .i64 0, .int .i64 0, .string ⟨#[]⟩, .int .u8 0] 36)) (.cells #[.int .i64 0, .int .i64 0, .string ⟨#[]⟩, .int .u8 0] 36))) (fun a' => wpList _ _ _ _ a' (World.drew (World.alloc ((w.alloc (.cells #[.int .i64 a1_0, .int .i32 a1_1, .bool a1_2, .bool a1_3, .bool a1_4, .string a1_5] 25)).alloc (.cells #[.int .i64 0, .int .i64 0, .string ⟨#[]⟩, .int .u8 0] 36)) (.cells #[.int .i64 0, .int .i64 0, .string ⟨#[]⟩, .int .u8 0] 36)))) _ _
 have hAT : RKeyAt w0 w (World.drew (World.alloc ((w.alloc (.cells #[.int .i64 a1_0, .int .i32 a1_1, .bool a1_2, .bool a1_3, .bool a1_4, .string a1_5] 25)).alloc (.cells #[.int .i64 0, .int .i64 0, .string ⟨#[]⟩, .int .u8 0] 36)) (.cells #[.int .i64 0, .int .i64 0, .string ⟨#[]⟩, .int .u8 0] 36))) g s0_0 s0_1 s0_2 a1_0 a1_1 a1_2 a1_3 a1_4 a1_5 := (HA.1.quiet ((Below.refl _ _).alloc (Nat.le_refl _) _)).quiet (Below.refl _ _).drew
 have hXT : (World.drew (World.alloc ((w.alloc (.cells #[.int .i64 a1_0, .int .i32 a1_1, .bool a1_2, .bool a1_3, .bool a1_4, .string a1_5] 25)).alloc (.cells #[.int .i64 0, .int .i64 0, .string ⟨#[]⟩, .int .u8 0] 36)) (.cells #[.int .i64 0, .int .i64 0, .string ⟨#[]⟩, .int .u8 0] 36))).heap[w.heap.size + 2]? = some (.cells #[.int .i64 0, .int .i64 0, .string ⟨#[]⟩, .int .u8 0] 36) := new3_at _ _ _ ()
 generalize World.drew (World.alloc ((w.alloc (.cells #[.int .i64 a1_0, .int .i32 a1_1, .bool a1_2, .bool a1_3, .bool a1_4, .string a1_5] 25)).alloc (.cells #[.int .i64 0, .int .i64 0, .string ⟨#[]⟩, .int .u8 0] 36)) (.cells #[.int .i64 0, .int .i64 0, .string ⟨#[]⟩, .int .u8 0] 36)) = wT at hAT hXT ⊢
 have HAT := aM hAT
 have HXT := aM hXT
 clear hAT hXT z0 HA HAs p0 q0 q1 q2 q3 q4 q5
 have b0 : wT.cell? ⟨w.heap.size, 0, none⟩ = some (.int .i64 a1_0) := (bkC HAT.out.box 0).trans rfl
 have b1 : wT.cell? ⟨w.heap.size, 1, none⟩ = some (.int .i32 a1_1) := (bkC HAT.out.box 1).trans rfl
 have b2 : wT.cell? ⟨w.heap.size, 2, none⟩ = some (.bool a1_2) := (bkC HAT.out.box 2).trans rfl
 have b3 : wT.cell? ⟨w.heap.size, 3, none⟩ = some (.bool a1_3) := (bkC HAT.out.box 3).trans rfl
 have b4 : wT.cell? ⟨w.heap.size, 4, none⟩ = some (.bool a1_4) := (bkC HAT.out.box 4).trans rfl
 have b5 : wT.cell? ⟨w.heap.size, 5, none⟩ = some (.string a1_5) := (bkC HAT.out.box 5).trans rfl
 have c0 := cellS59_0 HAT.out.st.1
 have f0 := bkF HAT.out.st.1 0
 have c1 := cellS59_1 HAT.out.st.1
 have f1 := bkF HAT.out.st.1 1
 have c2 := cellS59_2 HAT.out.st.1
 have f2 := bkF HAT.out.st.1 2
 repeat still_step
 refine wpStill_nil ?_
 go_wp2_with (first
  | (go_at_call 41; refine (bodkinref19_second.calls k s0_0 a1_0 a1_1 a1_2 a1_3 a1_4 a1_5 r1 r2 r3 r4 _ HC.out).mono ?_; rintro e w4 ⟨rfl, hB2⟩; have HX := aM (bkB HXT.out hB2); have HA4 := aM (HAT.out.quiet hB2); clear hB2 HC HXT HAT; clear b0 b1 b2 b3 b4 b5 c0 f0 c1 f1 c2 f2; have b0 : w4.cell? ⟨w.heap.size, 0, none⟩ = some (.int .i64 a1_0) := (bkC HA4.out.box 0).trans rfl; have b1 : w4.cell? ⟨w.heap.size, 1, none⟩ = some (.int .i32 a1_1) := (bkC HA4.out.box 1).trans rfl; have b2 : w4.cell? ⟨w.heap.size, 2, none⟩ = some (.bool a1_2) := (bkC HA4.out.box 2).trans rfl; have b3 : w4.cell? ⟨w.heap.size, 3, none⟩ = some (.bool a1_3) := (bkC HA4.out.box 3).trans rfl; have b4 : w4.cell? ⟨w.heap.size, 4, none⟩ = some (.bool a1_4) := (bkC HA4.out.box 4).trans rfl; have b5 : w4.cell? ⟨w.heap.size, 5, none⟩ = some (.string a1_5) := (bkC HA4.out.box 5).trans rfl; have c0 := cellS59_0 HA4.out.st.1; have f0 := bkF HA4.out.st.1 0; have c1 := cellS59_1 HA4.out.st.1; have f1 := bkF HA4.out.st.1 1; have c2 := cellS59_2 HA4.out.st.1; have f2 := bkF HA4.out.st.1 2; have x0 : w4.cell? ⟨(w.heap.size + 2), 0, none⟩ = some (.int .i64 0) := (bkC HX.out 0).trans rfl; have y0 := bkF HX.out 0; have x1 : w4.cell? ⟨(w.heap.size + 2), 1, none⟩ = some (.int .i64 0) := (bkC HX.out 1).trans rfl; have y1 := bkF HX.out 1; have x2 : w4.cell? ⟨(w.heap.size + 2), 2, none⟩ = some (.string ⟨#[]⟩) := (bkC HX.out 2).trans rfl; have y2 := bkF HX.out 2; have x3 : w4.cell? ⟨(w.heap.size + 2), 3, none⟩ = some (.int .u8 0) := (bkC HX.out 3).trans rfl; have y3 := bkF HX.out 3)
  | (go_at_call 35; refine (bodkinref19_Binder_Count.calls g s0_0 s0_1 s0_2 n1 n2 s0_0 s0_1 s0_2 w0 _ (by repeat (first | with_reducible exact HA4.out.st | refine IsS59.far ?_ hn3 _)) (by repeat (first | with_reducible exact HA4.out.bel | refine bwS ?_ hbw.out)) HN.out).mono ?_; rintro e w5 ⟨rfl, hI5, hB5, hK5⟩; have HX5 := aM (hK5.blk (g' := (w.heap.size + 2)) (show _ = some (Obj.cells #[.int .i64 r1, .int .i64 r2, .string r3, .int .u8 r4] 36 (0, 0)) from (bkU (cs := #[.int .i64 r1, .int .i64 r2, .string r3, .int .u8 0]) (bkU (cs := #[.int .i64 r1, .int .i64 r2, .string ⟨#[]⟩, .int .u8 0]) (bkU (cs := #[.int .i64 r1, .int .i64 0, .string ⟨#[]⟩, .int .u8 0]) (bkU (cs := #[.int .i64 0, .int .i64 0, .string ⟨#[]⟩, .int .u8 0]) HX.out 0 _ rfl) 1 _ rfl) 2 _ rfl) 3 _ rfl)) hn3' (by simp)); have HA5 := aM ((RKeyAt.four HA4.out hbw.out hbk.out hn3 hn5 hn6 _ _ _ _).call hlt.out hI5 hB5 hK5); clear hI5 hB5 hK5 HN HX; have HX := HX5; clear HX5; clear b0 b1 b2 b3 b4 b5 c0 f0 c1 f1 c2 f2; clear x0 y0 x1 y1 x2 y2 x3 y3; have b0 : w5.cell? ⟨w.heap.size, 0, none⟩ = some (.int .i64 a1_0) := (bkC HA5.out.box 0).trans rfl; have b1 : w5.cell? ⟨w.heap.size, 1, none⟩ = some (.int .i32 a1_1) := (bkC HA5.out.box 1).trans rfl; have b2 : w5.cell? ⟨w.heap.size, 2, none⟩ = some (.bool a1_2) := (bkC HA5.out.box 2).trans rfl; have b3 : w5.cell? ⟨w.heap.size, 3, none⟩ = some (.bool a1_3) := (bkC HA5.out.box 3).trans rfl; have b4 : w5.cell? ⟨w.heap.size, 4, none⟩ = some (.bool a1_4) := (bkC HA5.out.box 4).trans rfl; have b5 : w5.cell? ⟨w.heap.size, 5, none⟩ = some (.string a1_5) := (bkC HA5.out.box 5).trans rfl; have c0 := cellS59_0 HA5.out.st.1; have f0 := bkF HA5.out.st.1 0; have c1 := cellS59_1 HA5.out.st.1; have f1 := bkF HA5.out.st.1 1; have c2 := cellS59_2 HA5.out.st.1; have f2 := bkF HA5.out.st.1 2; have x0 : w5.cell? ⟨(w.heap.size + 2), 0, none⟩ = some (.int .i64 r1) := (bkC HX.out 0).trans rfl; have y0 := bkF HX.out 0; have x1 : w5.cell? ⟨(w.heap.size + 2), 1, none⟩ = some (.int .i64 r2) := (bkC HX.out 1).trans rfl; have y1 := bkF HX.out 1; have x2 : w5.cell? ⟨(w.heap.size + 2), 2, none⟩ = some (.string r3) := (bkC HX.out 2).trans rfl; have y2 := bkF HX.out 2; have x3 : w5.cell? ⟨(w.heap.size + 2), 3, none⟩ = some (.int .u8 r4) := (bkC HX.out 3).trans rfl; have y3 := bkF HX.out 3)
  | (go_at_call 42; refine (bodkinref19_Binder_Reset.calls g s0_0 s0_1 s0_2 ⟨#[]⟩ 0 false w0 _ (IsS59.far (IsS59.far HA5.out.st hn3 _) hn3 _) (bwS (bwS HA5.out.bel hbw.out) hbw.out) rfl).mono ?_; rintro e w6 ⟨rfl, hI5, hB5, hK5⟩; have HX6 := aM (hK5.blk (g' := (w.heap.size + 2)) (show _ = some (Obj.cells #[.int .i64 r1, .int .i64 1, .string r3, .int .u8 r4] 36 (0, 0)) from (bkU (cs := #[.int .i64 r1, .int .i64 n1, .string r3, .int .u8 r4]) (bkU (cs := #[.int .i64 r1, .int .i64 r2, .string r3, .int .u8 r4]) HX.out 1 _ rfl) 1 _ rfl)) hn3' (by simp)); have HA6 := aM ((((RKeyAt.far HA5.out hbw.out hbk.out hn3 hn5 hn6 _ _).far hbw.out hbk.out hn3 hn5 hn6 _ _)).call hlt.out hI5 hB5 hK5); clear hI5 hB5 hK5 HX; have HX := HX6; clear HX6; clear b0 b1 b2 b3 b4 b5 c0 f0 c1 f1 c2 f2; clear x0 y0 x1 y1 x2 y2 x3 y3; have b0 : w6.cell? ⟨w.heap.size, 0, none⟩ = some (.int .i64 a1_0) := (bkC HA6.out.box 0).trans rfl; have b1 : w6.cell? ⟨w.heap.size, 1, none⟩ = some (.int .i32 a1_1) := (bkC HA6.out.box 1).trans rfl; have b2 : w6.cell? ⟨w.heap.size, 2, none⟩ = some (.bool a1_2) := (bkC HA6.out.box 2).trans rfl; have b3 : w6.cell? ⟨w.heap.size, 3, none⟩ = some (.bool a1_3) := (bkC HA6.out.box 3).trans rfl; have b4 : w6.cell? ⟨w.heap.size, 4, none⟩ = some (.bool a1_4) := (bkC HA6.out.box 4).trans rfl; have b5 : w6.cell? ⟨w.heap.size, 5, none⟩ = some (.string a1_5) := (bkC HA6.out.box 5).trans rfl; have c0 := cellS59_0 HA6.out.st.1; have f0 := bkF HA6.out.st.1 0; have c1 := cellS59_1 HA6.out.st.1; have f1 := bkF HA6.out.st.1 1; have c2 := cellS59_2 HA6.out.st.1; have f2 := bkF HA6.out.st.1 2; have x0 : w6.cell? ⟨(w.heap.size + 2), 0, none⟩ = some (.int .i64 r1) := (bkC HX.out 0).trans rfl; have y0 := bkF HX.out 0; have x1 : w6.cell? ⟨(w.heap.size + 2), 1, none⟩ = some (.int .i64 1) := (bkC HX.out 1).trans rfl; have y1 := bkF HX.out 1; have x2 : w6.cell? ⟨(w.heap.size + 2), 2, none⟩ = some (.string r3) := (bkC HX.out 2).trans rfl; have y2 := bkF HX.out 2; have x3 : w6.cell? ⟨(w.heap.size + 2), 3, none⟩ = some (.int .u8 r4) := (bkC HX.out 3).trans rfl; have y3 := bkF HX.out 3; have d0 : w6.cell? ⟨w.heap.size + 1, 0, none⟩ = some (.int .i64 0) := (bkC HA6.out.res 0).trans rfl; have e0 := bkF HA6.out.res 0; have d1 : w6.cell? ⟨w.heap.size + 1, 1, none⟩ = some (.int .i64 0) := (bkC HA6.out.res 1).trans rfl; have e1 := bkF HA6.out.res 1; have d2 : w6.cell? ⟨w.heap.size + 1, 2, none⟩ = some (.string ⟨#[]⟩) := (bkC HA6.out.res 2).trans rfl; have e2 := bkF HA6.out.res 2; have d3 : w6.cell? ⟨w.heap.size + 1, 3, none⟩ = some (.int .u8 0) := (bkC HA6.out.res 3).trans rfl; have e3 := bkF HA6.out.res 3))
 refine bodyPost_ret (results_ct rfl _ _ (w.heap.size + 1) 36 #[.int .i64 r1, .int .i64 1, .string r3, .int .u8 r4] (0, 0) _ rfl ?_ Try.underlying36 rfl (by kernel_rfl)) rfl ?_
 ·exact (bkU (cs := #[.int .i64 r1, .int .i64 1, .string r3, .int .u8 0]) (bkU (cs := #[.int .i64 r1, .int .i64 1, .string ⟨#[]⟩, .int .u8 0]) (bkU (cs := #[.int .i64 r1, .int .i64 0, .string ⟨#[]⟩, .int .u8 0]) (bkU (cs := #[.int .i64 0, .int .i64 0, .string ⟨#[]⟩, .int .u8 0]) HA6.out.res 0 _ rfl) 1 _ rfl) 2 _ rfl) 3 _ rfl)
 refine ⟨rfl, ?_, ?_, ?_⟩
 ·exact IsS59.far (IsS59.far (IsS59.far (IsS59.far HA6.out.st hne2 _) hne2 _) hne2 _) hne2 _
 ·have hz : w0.heap.size ≤ w.heap.size + 1 := by have := HBS.out; omega
  exact bwS (bwS (bwS (bwS HA6.out.bel hz) hz) hz) hz
 have hz : w.heap.size ≤ w.heap.size + 1 := by omega
 exact keep_far (keep_far (keep_far (keep_far HA6.out.keep hz _) hz _) hz _) hz _

theorem rkey_count {s0_0 : ByteArray} {s0_1 : Int} {s0_2 : Bool} {r1 : Int} {r2 : Bool} {r3 : ByteArray} {r4 : Int} {r5 : Bool} (h : bodkinref19_Binder_Count.f s0_0 s0_1 s0_2 = some (r1, r2, r3, r4, r5)) : r3 = s0_0 ∧ r4 = s0_1 ∧ r5 = s0_2 := by
 unfold bodkinref19_Binder_Count.f at h
 repeat' split at h
 all_goals (simp only [Option.some.injEq, Prod.mk.injEq] at h; obtain ⟨-, -, rfl, rfl, rfl⟩ := h; exact ⟨rfl, rfl, rfl⟩)
def bodkinref19_Binder_Key.fin (s0_0 : ByteArray) (s0_1 : Int) (s0_2 : Bool) (c : Int × Int × ByteArray × Int) : Option (Int × Int × ByteArray × Int × Bool × ByteArray × Int × Bool) :=
  (bodkinref19_Binder_Count.f s0_0 s0_1 s0_2).bind fun n => some (c.1, (if c.1 = 37 then 1 else n.1), c.2.2.1, c.2.2.2, true, (⟨#[]⟩ : ByteArray), 0, false)
def bodkinref19_Binder_Key.f (k : Nat) (s0_0 : ByteArray) (s0_1 : Int) (s0_2 : Bool) (a1_0 : Int) (a1_1 : Int) (a1_2 : Bool) (a1_3 : Bool) (a1_4 : Bool) (a1_5 : ByteArray) : Option (Int × Int × ByteArray × Int × Bool × ByteArray × Int × Bool) :=
  if s0_0.toList = ([] : List UInt8) then
    (bodkinref19_digit.f a1_0 a1_1 a1_2 a1_3 a1_4 a1_5 s0_2).bind fun d =>
      if d = true then some (0, 0, (⟨#[]⟩ : ByteArray), 0, false, s0_0, (if wrap64 (wrap64 (s0_1 * 10) + wrap64 (wrap32 (a1_1 - 48))) > 1000 then 1000 else wrap64 (wrap64 (s0_1 * 10) + wrap64 (wrap32 (a1_1 - 48)))), true)
      else (bodkinref19_prefix.f k a1_0 a1_1 a1_2 a1_3 a1_4 a1_5).bind fun p => if p.toList = ([] : List UInt8) then (bodkinref19_single.f k a1_0 a1_1 a1_2 a1_3 a1_4 a1_5).bind fun c => bodkinref19_Binder_Key.fin p s0_1 s0_2 c else some (0, 0, (⟨#[]⟩ : ByteArray), 0, false, p, s0_1, s0_2)
  else if s0_0.toList = ([113] : List UInt8) then (bodkinref19_quoted.f k a1_0 a1_1 a1_2 a1_3 a1_4 a1_5).bind fun c => bodkinref19_Binder_Key.fin s0_0 s0_1 s0_2 c
  else (bodkinref19_second.f k s0_0 a1_0 a1_1 a1_2 a1_3 a1_4 a1_5).bind fun c => bodkinref19_Binder_Key.fin s0_0 s0_1 s0_2 c
theorem bodkinref19_Binder_Key.mono : ∀ a0 a1 a2 a3 a4 a5 a6 a7 a8 k, LeO (bodkinref19_Binder_Key.f k a0 a1 a2 a3 a4 a5 a6 a7 a8) (bodkinref19_Binder_Key.f (k + 1) a0 a1 a2 a3 a4 a5 a6 a7 a8) := by
 intro a0 a1 a2 a3 a4 a5 a6 a7 a8 k
 unfold bodkinref19_Binder_Key.f
 repeat' first
  | (with_reducible exact bodkinref19_prefix.mono _ _ _ _ _ _ _)
  | (with_reducible exact bodkinref19_single.mono _ _ _ _ _ _ _)
  | (with_reducible exact bodkinref19_quoted.mono _ _ _ _ _ _ _)
  | (with_reducible exact bodkinref19_second.mono _ _ _ _ _ _ _ _)
  | (with_reducible exact LeO.refl _)
  | (with_reducible exact LeO.none _)
  | (with_reducible refine LeO.ite ?_ ?_)
  | (with_reducible refine LeO.bind ?_ (fun _ => ?_))
theorem bodkinref19_Binder_Key.calls (k : Nat) (g : Nat) (s0_0 : ByteArray) (s0_1 : Int) (s0_2 : Bool) (a1_0 : Int) (a1_1 : Int) (a1_2 : Bool) (a1_3 : Bool) (a1_4 : Bool) (a1_5 : ByteArray) (r1 : Int) (r2 : Int) (r3 : ByteArray) (r4 : Int) (r5 : Bool) (r6 : ByteArray) (r7 : Int) (r8 : Bool) (w0 w : World) (hI : IsS59 w0 w g s0_0 s0_1 s0_2) (hB : Below w0.heap.size w0 w) (h : bodkinref19_Binder_Key.f k s0_0 s0_1 s0_2 a1_0 a1_1 a1_2 a1_3 a1_4 a1_5 = some (r1, r2, r3, r4, r5, r6, r7, r8)) :
    Calls Try.prog 29 #[.pointer (some ⟨g, 0, none⟩), .agg #[.int .i64 a1_0, .int .i32 a1_1, .bool a1_2, .bool a1_3, .bool a1_4, .string a1_5]] w fun e w' => e = .returned (.tuple #[.agg #[.int .i64 r1, .int .i64 r2, .string r3, .int .u8 r4], .bool r5]) ∧ IsS59 w0 w' g r6 r7 r8 ∧ Below w0.heap.size w0 w' ∧ KeepBut w w' g none := by
 unfold bodkinref19_Binder_Key.f at h
 by_cases he : s0_0.toList = ([] : List UInt8)
 ·rw [if_pos he] at h
  obtain ⟨d, hd, h1⟩ := Option.bind_eq_some_iff.mp h
  clear h
  cases d with
  | true =>
   rw [if_pos rfl] at h1
   simp only [Option.some.injEq, Prod.mk.injEq] at h1
   obtain ⟨rfl, rfl, rfl, rfl, rfl, rfl, rfl, rfl⟩ := h1
   exact rkey_digit g _ _ _ a1_0 a1_1 a1_2 a1_3 a1_4 a1_5 w0 w hI hB (beq_iff_eq.mpr he) (bne_eq_false_iff_eq.mpr he) hd
  | false =>
   rw [if_neg (show ¬ ((false : Bool) = true) from by simp)] at h1
   obtain ⟨p, hp, h2⟩ := Option.bind_eq_some_iff.mp h1
   clear h1
   by_cases hp0 : p.toList = ([] : List UInt8)
   ·rw [if_pos hp0] at h2
    obtain ⟨⟨c1, c2, c3, c4⟩, hc, h3⟩ := Option.bind_eq_some_iff.mp h2
    clear h2
    unfold bodkinref19_Binder_Key.fin at h3
    obtain ⟨⟨n1, n2, n3, n4, n5⟩, hn, h4⟩ := Option.bind_eq_some_iff.mp h3
    clear h3
    by_cases h37 : c1 = 37
    ·simp only [h37, if_true, Option.some.injEq, Prod.mk.injEq] at h4
     obtain ⟨rfl, rfl, rfl, rfl, rfl, rfl, rfl, rfl⟩ := h4
     obtain ⟨rfl, rfl, rfl⟩ := rkey_count hn
     subst h37
     exact rkey_single_abort k g _ _ _ a1_0 a1_1 a1_2 a1_3 a1_4 a1_5 _ _ _ _ _ _ _ w0 w hI hB (beq_iff_eq.mpr he) (bne_eq_false_iff_eq.mpr he) hd hp (beq_iff_eq.mpr hp0) (bne_eq_false_iff_eq.mpr hp0) hc hn rfl
    simp only [h37, if_false, Option.some.injEq, Prod.mk.injEq] at h4
    obtain ⟨rfl, rfl, rfl, rfl, rfl, rfl, rfl, rfl⟩ := h4
    obtain ⟨rfl, rfl, rfl⟩ := rkey_count hn
    exact rkey_single k g _ _ _ a1_0 a1_1 a1_2 a1_3 a1_4 a1_5 _ _ _ _ _ _ _ w0 w hI hB (beq_iff_eq.mpr he) (bne_eq_false_iff_eq.mpr he) hd hp (beq_iff_eq.mpr hp0) (bne_eq_false_iff_eq.mpr hp0) hc hn (beq_eq_false_iff_ne.mpr h37)
   rw [if_neg hp0] at h2
   simp only [Option.some.injEq, Prod.mk.injEq] at h2
   obtain ⟨rfl, rfl, rfl, rfl, rfl, rfl, rfl, rfl⟩ := h2
   exact rkey_prefix k g _ _ _ a1_0 a1_1 a1_2 a1_3 a1_4 a1_5 _ w0 w hI hB (beq_iff_eq.mpr he) (bne_eq_false_iff_eq.mpr he) hd hp (beq_eq_false_iff_ne.mpr hp0) (bne_iff_ne.mpr hp0)
 rw [if_neg he] at h
 by_cases hq : s0_0.toList = ([113] : List UInt8)
 ·rw [if_pos hq] at h
  obtain ⟨⟨c1, c2, c3, c4⟩, hc, h3⟩ := Option.bind_eq_some_iff.mp h
  clear h
  unfold bodkinref19_Binder_Key.fin at h3
  obtain ⟨⟨n1, n2, n3, n4, n5⟩, hn, h4⟩ := Option.bind_eq_some_iff.mp h3
  clear h3
  by_cases h37 : c1 = 37
  ·simp only [h37, if_true, Option.some.injEq, Prod.mk.injEq] at h4
   obtain ⟨rfl, rfl, rfl, rfl, rfl, rfl, rfl, rfl⟩ := h4
   obtain ⟨rfl, rfl, rfl⟩ := rkey_count hn
   subst h37
   exact rkey_quoted_abort k g _ _ _ a1_0 a1_1 a1_2 a1_3 a1_4 a1_5 _ _ _ _ _ _ w0 w hI hB (beq_eq_false_iff_ne.mpr he) (bne_iff_ne.mpr he) (beq_iff_eq.mpr hq) hc hn rfl
  simp only [h37, if_false, Option.some.injEq, Prod.mk.injEq] at h4
  obtain ⟨rfl, rfl, rfl, rfl, rfl, rfl, rfl, rfl⟩ := h4
  obtain ⟨rfl, rfl, rfl⟩ := rkey_count hn
  exact rkey_quoted k g _ _ _ a1_0 a1_1 a1_2 a1_3 a1_4 a1_5 _ _ _ _ _ _ w0 w hI hB (beq_eq_false_iff_ne.mpr he) (bne_iff_ne.mpr he) (beq_iff_eq.mpr hq) hc hn (beq_eq_false_iff_ne.mpr h37)
 rw [if_neg hq] at h
 obtain ⟨⟨c1, c2, c3, c4⟩, hc, h3⟩ := Option.bind_eq_some_iff.mp h
 clear h
 unfold bodkinref19_Binder_Key.fin at h3
 obtain ⟨⟨n1, n2, n3, n4, n5⟩, hn, h4⟩ := Option.bind_eq_some_iff.mp h3
 clear h3
 by_cases h37 : c1 = 37
 ·simp only [h37, if_true, Option.some.injEq, Prod.mk.injEq] at h4
  obtain ⟨rfl, rfl, rfl, rfl, rfl, rfl, rfl, rfl⟩ := h4
  obtain ⟨rfl, rfl, rfl⟩ := rkey_count hn
  subst h37
  exact rkey_second_abort k g _ _ _ a1_0 a1_1 a1_2 a1_3 a1_4 a1_5 _ _ _ _ _ _ w0 w hI hB (beq_eq_false_iff_ne.mpr he) (bne_iff_ne.mpr he) (beq_eq_false_iff_ne.mpr hq) hc hn rfl
 simp only [h37, if_false, Option.some.injEq, Prod.mk.injEq] at h4
 obtain ⟨rfl, rfl, rfl, rfl, rfl, rfl, rfl, rfl⟩ := h4
 obtain ⟨rfl, rfl, rfl⟩ := rkey_count hn
 exact rkey_second k g _ _ _ a1_0 a1_1 a1_2 a1_3 a1_4 a1_5 _ _ _ _ _ _ w0 w hI hB (beq_eq_false_iff_ne.mpr he) (bne_iff_ne.mpr he) (beq_eq_false_iff_ne.mpr hq) hc hn (beq_eq_false_iff_ne.mpr h37)

/-! ### bodkinref19_Commands: function 18 -/
def bodkinref19_Commands.l0 : Nat → List (S25) → List (S36) → Int → ByteArray → Int → Bool → Option ((List (S36)))
  | 0, _, _, _, _, _, _ => none
  | k + 1, x0, x3, x5, x379000, x379001, x379002 => if x5 < (x0.length : Int) then (if 0 ≤ x5 then ((bodkinref19_Binder_Key.f k x379000 x379001 x379002 ((rd_T25 x0 x5).f0) ((rd_T25 x0 x5).f1) ((rd_T25 x0 x5).f2) ((rd_T25 x0 x5).f3) ((rd_T25 x0 x5).f4) ((rd_T25 x0 x5).f5)).bind fun bt380 => (if bt380.2.2.2.2.1 = true then (if x3.length < 3518437208883 then (bodkinref19_Commands.l0 k x0 (x3 ++ [(⟨bt380.1, bt380.2.1, bt380.2.2.1, bt380.2.2.2.1⟩ : S36)]) (wrap64 (x5 + 1)) bt380.2.2.2.2.2.1 bt380.2.2.2.2.2.2.1 bt380.2.2.2.2.2.2.2) else (none)) else (bodkinref19_Commands.l0 k x0 x3 (wrap64 (x5 + 1)) bt380.2.2.2.2.2.1 bt380.2.2.2.2.2.2.1 bt380.2.2.2.2.2.2.2))) else (none)) else (some x3)
def bodkinref19_Commands.f (k : Nat) (l0 : List (S25)) : Option ((List (S36))) := (bodkinref19_New.f).bind fun bt375 => (bodkinref19_Commands.l0 k l0 ([] : List (S36)) 0 bt375.1 bt375.2.1 bt375.2.2)
theorem bodkinref19_Commands.mono_l : ∀ k, (∀ y0 y1 y2 y3 y4 y5, LeO (bodkinref19_Commands.l0 k y0 y1 y2 y3 y4 y5) (bodkinref19_Commands.l0 (k + 1) y0 y1 y2 y3 y4 y5))
  | 0 => fun _ _ _ _ _ _ r h => by simp [bodkinref19_Commands.l0] at h
  | k + 1 => by
    have ih0 := bodkinref19_Commands.mono_l k
    · intro y0 y1 y2 y3 y4 y5
      unfold bodkinref19_Commands.l0
      repeat' first
      | (with_reducible exact ih0 _ _ _ _ _ _)
      | (with_reducible exact bodkinref19_Binder_Key.mono _ _ _ _ _ _ _ _ _ _)
      | (with_reducible exact LeO.refl _)
      | (with_reducible exact LeO.none _)
      | (with_reducible refine LeO.ite ?_ ?_)
      | (with_reducible refine LeO.bind ?_ (fun _ => ?_))
      | exact ih0 _ _ _ _ _ _
      | exact bodkinref19_Binder_Key.mono _ _ _ _ _ _ _ _ _ _
      | exact LeO.none _
      | refine LeO.ite ?_ ?_
      | refine LeO.bind ?_ (fun _ => ?_)
theorem bodkinref19_Commands.mono : ∀ a0 k, LeO (bodkinref19_Commands.f k a0) (bodkinref19_Commands.f (k + 1) a0) := by
 intro a0 k
 have ih0 := bodkinref19_Commands.mono_l k
 unfold bodkinref19_Commands.f
 repeat' first
   | (with_reducible exact ih0 _ _ _ _ _ _)
   | (with_reducible exact bodkinref19_Binder_Key.mono _ _ _ _ _ _ _ _ _ _)
   | (with_reducible exact LeO.refl _)
   | (with_reducible exact LeO.none _)
   | (with_reducible refine LeO.ite ?_ ?_)
   | (with_reducible refine LeO.bind ?_ (fun _ => ?_))
   | exact ih0 _ _ _ _ _ _
   | exact bodkinref19_Binder_Key.mono _ _ _ _ _ _ _ _ _ _
   | exact LeO.none _
   | refine LeO.ite ?_ ?_
   | refine LeO.bind ?_ (fun _ => ?_)
set_option maxHeartbeats 8000000 in
set_option maxRecDepth 100000 in
theorem bodkinref19_Commands.calls (k : Nat) (A0 : Option Addr) (c0 : Nat) (l0 : List (S25)) (r : List (S36)) (w : World) (hr0 : Kd.C k25 w A0 l0.length l0) (hc0 : l0.length ≤ c0) (h : bodkinref19_Commands.f k l0 = some r) :
    Calls Try.prog 18 #[.slice A0 l0.length c0] w fun e w' => ∃ v0_ : Value, e = .returned (v0_) ∧ Kd.R k36 36 w' w.heap.size (fun _ => True) v0_ r ∧ Below w.heap.size w w' := by
 have hu25 := Try.underlying25
 have hu36 := Try.underlying36
 have HR0 := aM hr0
 have HC0 := aM hc0
 clear hr0 hc0
 have HB := aM (Below.refl w.heap.size w)
 have H : ((bodkinref19_New.f).bind fun bt375 => (bodkinref19_Commands.l0 k l0 ([] : List (S36)) 0 bt375.1 bt375.2.1 bt375.2.2)) = some r := h
 clear h
 replace H := Option.bind_eq_some_iff.mp H
 obtain ⟨⟨t375, t376, t377⟩, A20, H⟩ := H
 replace H : (bodkinref19_Commands.l0 k l0 ([] : List (S36)) 0 t375 t376 t377) = some r := H
 have A2 := aM A20
 clear A20
 have H' := aM H
 clear H
 go_enter Try.func18, Try.ntmps18
 go_wp2_with (first | ((with_reducible refine gate_callee (f := 25) rfl ?_); refine goesL_ (some 8) rfl rfl Try.func25 (by kernel_rfl) rfl #[] rfl (by (try simp only [List.map_toArray, List.map_cons, List.map_nil]); first | done | rfl) ?_; (with_reducible refine (bodkinref19_New.calls  t375 t376 t377 w _ ?side1 A2.1).mono ?_); (case side1 => apply_rules (transparency := .reducible) [HB.1, bwA, bwN, bwD]); rintro e w3 ⟨g378, rfl, hi, hb, hb2⟩; refine ⟨_, rfl, ?_⟩; replace HB := aM (hb); have HI378 := aM (hi); (try clear hb); (try clear hb2); (try clear hk); (try clear hi)))
 go_loopg [3, 5] k (fun kq v3 v5 w' => ∃ (x3_1 : List (S36)) (x5_1 : Int) (x379000_1 : ByteArray) (x379001_1 : Int) (x379002_1 : Bool), v5 = .int .i64 x5_1 ∧ Aside0 (bodkinref19_Commands.l0 kq l0 x3_1 x5_1 x379000_1 x379001_1 x379002_1 = some r) ∧ Aside0 (kq ≤ k) ∧ Aside0 (Kd.R k36 36 w' w.heap.size (fun _ => True) v3 x3_1) ∧ Aside0 (IsS59 w w' g378 x379000_1 x379001_1 x379002_1) ∧ Aside0 (Below w.heap.size w w'))
 case atStart => exact ⟨(([] : List (S36))), (0), (t375), (t376), (t377), rfl, H', ⟨Nat.le_refl _⟩, ⟨by first | exact Kd.R_nil _ _ _ _ _ | exact Kd.N_nil _ _ _ _ _ | exact Kd.V_nil _ _ _ _ _ | exact Kd.Q_nil _ _ _ _ _ | exact Kd.S_nil _ _ _ _ _⟩, ⟨by apply_rules (transparency := .reducible) [HI378.1, IsS59.alloc, IsS59.drewN, IsS59.drew, IsS59.set_0, IsS59.set_1, IsS59.set_2]⟩, ⟨by apply_rules (transparency := .reducible) [HB.1, bwA, bwN, bwD, bwS, (IsS59.ge HI378.1)]⟩⟩
 clear H'
 obtain ⟨x3_1, x5_1, x379000_1, x379001_1, x379002_1, rfl, HA, HK1, HO_3, HI378, HB⟩ := hrel
 obtain _ | k1 := gk
 ·exact absurd HA.1 (by simp [bodkinref19_Commands.l0])
 have H := HA.1
 clear HA
 simp only [bodkinref19_Commands.l0] at H
 by_cases c4 : x5_1 < (l0.length : Int)
 ·rw [if_pos c4] at H
  have c4b0 : decide (x5_1 < (l0.length : Int)) = true := decide_eq_true c4
  clear c4
  by_cases c5 : 0 ≤ x5_1
  ·rw [if_pos c5] at H
   have c5b0 : decide (0 ≤ x5_1) = true := decide_eq_true c5
   clear c5
   replace H := Option.bind_eq_some_iff.mp H
   obtain ⟨⟨t380, t381, t382, t383, t384, t385, t386, t387⟩, A60, H⟩ := H
   replace H : (if t384 = true then (if x3_1.length < 3518437208883 then (bodkinref19_Commands.l0 k1 l0 (x3_1 ++ [(⟨t380, t381, t382, t383⟩ : S36)]) (wrap64 (x5_1 + 1)) t385 t386 t387) else (none)) else (bodkinref19_Commands.l0 k1 l0 x3_1 (wrap64 (x5_1 + 1)) t385 t386 t387)) = some r := H
   have A6 := aM A60
   clear A60
   by_cases c7 : t384 = true
   ·subst c7
    replace H : (if x3_1.length < 3518437208883 then (bodkinref19_Commands.l0 k1 l0 (x3_1 ++ [(⟨t380, t381, t382, t383⟩ : S36)]) (wrap64 (x5_1 + 1)) t385 t386 t387) else (none)) = some r := by rw [if_pos rfl] at H; exact H
    by_cases c8 : x3_1.length < 3518437208883
    ·rw [if_pos c8] at H
     have LMc8 := aM c8
     clear c8
     obtain ⟨y389, hy389⟩ : ∃ y_ : List (S36), y_ = (x3_1 ++ [(⟨t380, t381, t382, t383⟩ : S36)]) := ⟨_, rfl⟩
     replace H : (bodkinref19_Commands.l0 k1 l0 y389 (wrap64 (x5_1 + 1)) t385 t386 t387) = some r := by first | (rw [hy389]; with_reducible exact H) | (have H2_ := (Option.bind_some _ _).symm.trans H; rw [hy389]; with_reducible exact H2_) | (have H2_ := (Option.bind_some _ _).symm.trans H; with_reducible exact H2_) | with_reducible exact H | (rw [hy389]; exact H) | exact H
     have Ny389 := aM hy389
     clear hy389
     have H' := aM H
     clear H
     have p379 : 0 ≤ (x5_1 : Int) := of_decide_eq_true (by first | (with_reducible assumption) | assumption)
     have q379 : x5_1 < (l0.length : Int) := of_decide_eq_true (by first | (with_reducible assumption) | assumption)
     obtain ⟨ad379, e379, hx379_0, hx379_1, hx379_2, hx379_3, hx379_4, hx379_5⟩ := at_T25 HR0.out x5_1 p379 q379
     cases e379
     replace hx379_0 := (HB.1.cell (World.block_lt_of_cell? w _ hx379_0)).trans hx379_0
     replace hx379_1 := (HB.1.cell (World.block_lt_of_cell? w _ hx379_1)).trans hx379_1
     replace hx379_2 := (HB.1.cell (World.block_lt_of_cell? w _ hx379_2)).trans hx379_2
     replace hx379_3 := (HB.1.cell (World.block_lt_of_cell? w _ hx379_3)).trans hx379_3
     replace hx379_4 := (HB.1.cell (World.block_lt_of_cell? w _ hx379_4)).trans hx379_4
     replace hx379_5 := (HB.1.cell (World.block_lt_of_cell? w _ hx379_5)).trans hx379_5
     replace p379 := eq_true p379
     replace q379 := eq_true q379
     go_wp2_with (first | ((with_reducible refine gate_callee (f := 29) rfl ?_); refine goesL_ (some 21) rfl rfl Try.func29 (by kernel_rfl) rfl #[.pointer (some ⟨g378, 0, none⟩), .agg #[.int .i64 ((rd_T25 l0 x5_1).f0), .int .i32 ((rd_T25 l0 x5_1).f1), .bool ((rd_T25 l0 x5_1).f2), .bool ((rd_T25 l0 x5_1).f3), .bool ((rd_T25 l0 x5_1).f4), .string ((rd_T25 l0 x5_1).f5)]] rfl (by (try simp only [List.map_toArray, List.map_cons, List.map_nil]); first | done | rfl) ?_; (with_reducible refine (bodkinref19_Binder_Key.calls k1 g378 x379000_1 x379001_1 x379002_1 ((rd_T25 l0 x5_1).f0) ((rd_T25 l0 x5_1).f1) ((rd_T25 l0 x5_1).f2) ((rd_T25 l0 x5_1).f3) ((rd_T25 l0 x5_1).f4) ((rd_T25 l0 x5_1).f5) t380 t381 t382 t383 true t385 t386 t387 w _ ?side1 ?side2 A6.1).mono ?_); (case side1 => apply_rules (transparency := .reducible) [HI378.1, IsS59.alloc, IsS59.drewN, IsS59.drew, IsS59.set_0, IsS59.set_1, IsS59.set_2]); (case side2 => apply_rules (transparency := .reducible) [HB.1, bwA, bwN, bwD, bwS, (IsS59.ge HI378.1)]); rintro e w9 ⟨rfl, hi, hb, hk⟩; refine ⟨_, rfl, ?_⟩; replace HO_3 := aM (Kd.R_mono (Kd.R_keep (IsS59.apart (show IsS59 w _ g378 x379000_1 x379001_1 x379002_1 from by apply_rules (transparency := .reducible) [HI378.1, IsS59.alloc, IsS59.drewN, IsS59.drew, IsS59.set_0, IsS59.set_1, IsS59.set_2]) (by (with_reducible repeat first | apply Kd.R_alloc | apply Kd.R_drewN | apply Kd.R_drew); exact HO_3.out) (by decide)) hk (fun _ h => h.2)) (fun _ h => h.1)); replace HB := aM (hb); replace HI378 := aM (hi); (try clear hb); (try clear hb2); (try clear hk); (try clear hi)) | ((with_reducible refine gate_dst (N := 6) rfl ?_); refine box_event ?hg (N := 6) ?hd (cs := #[.int .i64 0, .int .i64 0, .string (⟨#[]⟩ : ByteArray), .int .u8 0]) (t := 36) ?hr ?_; (case hd => rfl); (case hg => rfl); (case hr => first | (go_simp; done) | (go_simp; rfl)); intro gb388 hg w10 hbox hb; replace HO_3 := aM (Kd.R_below (Kd.R_elderB (by (with_reducible repeat first | apply Kd.R_alloc | apply Kd.R_drewN | apply Kd.R_drew); exact HO_3.out) gb388 (Nat.le_of_eq hg.symm)) hb); have BK388 := aM (hbox); have GW388 := aM ((by rw [hg]; exact (bwZ (by apply_rules (transparency := .reducible) [HB.1, bwA, bwN, bwD, bwS, (IsS59.ge HI378.1)])) : w.heap.size ≤ gb388)); have GE388 := aM ((by rw [hg]; exact (bwZ (by apply_rules (transparency := .reducible) [HB.1, bwA, bwN, bwD, bwS, (IsS59.ge HI378.1)])) : w.heap.size ≤ gb388)); replace HB := aM (below_step (by apply_rules (transparency := .reducible) [HB.1, bwA, bwN, bwD, bwS, (IsS59.ge HI378.1)]) hb); have NB378_388 := aM ((by rw [hg]; exact Nat.ne_of_lt (IsS59.lt (show IsS59 w _ g378 t385 t386 t387 from by apply_rules (transparency := .reducible) [HI378.1, IsS59.alloc, IsS59.drewN, IsS59.drew, IsS59.set_0, IsS59.set_1, IsS59.set_2])) : g378 ≠ gb388)); have NB388_378 := aM ((by rw [hg]; exact Nat.ne_of_gt (IsS59.lt (show IsS59 w _ g378 t385 t386 t387 from by apply_rules (transparency := .reducible) [HI378.1, IsS59.alloc, IsS59.drewN, IsS59.drew, IsS59.set_0, IsS59.set_1, IsS59.set_2])) : gb388 ≠ g378)); replace HI378 := aM (IsS59.below (by apply_rules (transparency := .reducible) [HI378.1, IsS59.alloc, IsS59.drewN, IsS59.drew, IsS59.set_0, IsS59.set_1, IsS59.set_2]) hb); clear hb hbox hg; have hnb11 := NB388_378.1; have hnc11 := NB378_388.1; obtain ⟨z12_0, z12_1, z12_2, z12_3, z12_4, z12_5, z12_6, z12_7⟩ := bx4 BK388.1) | ((with_reducible refine gate_builtin (b := .append) (xs := #[.tmp 25, .tmp 27]) rfl ?_); at_builtin; refine Kd.R_append k36 (w0 := w) w.heap.size rfl (.tmp 25) (.tmp 27) 31 36 (.agg #[(.int .i64 0), (.int .i64 0), (.string ⟨#[]⟩), (.int .u8 0)]) 40 rfl Try.underlying31 info36 rfl (by decide) (by omega) u3 x3_1 (⟨t380, t381, t382, t383⟩ : S36) [.int .i64 t380, .int .i64 t381, .string t382, .int .u8 t383] (fun k_ => k_ ≠ gb388) (fun _ => False) rfl (by first | (go_simp; done) | (go_simp; rfl)) ?aP (fun _ hk => hk.elim) ?aF ?aO ?aB ?aS ?aL ?_; (case aP => exact k36_mkM _ _ _ (⟨t380, t381, t382, t383⟩ : S36)); (case aB => exact (by apply_rules (transparency := .reducible) [HB.1, bwA, bwN, bwD, bwS, (IsS59.ge HI378.1), GE388.1])); (case aF => exact (fun k_ hk => Kd.freshB (g := gb388) (o := .cells #[.int .i64 t380, .int .i64 t381, .string t382, .int .u8 t383] 36 (0, 0)) (by (with_reducible repeat first | apply bkN | apply bkD | apply bkA); refine put4 (cs := #[.int .i64 0, .int .i64 0, .string (⟨#[]⟩ : ByteArray), .int .u8 0]) ?_ rfl; (with_reducible repeat first | apply bkN | apply bkD | apply bkA); exact BK388.1) k_ hk)); (case aO => exact (by (with_reducible repeat first | apply Kd.R_alloc | apply Kd.R_drewN | apply Kd.R_drew); exact Kd.R_mono (Kd.R_far (p := ⟨gb388, 3, none⟩) (Kd.R_far (p := ⟨gb388, 2, none⟩) (Kd.R_far (p := ⟨gb388, 1, none⟩) (Kd.R_far (p := ⟨gb388, 0, none⟩) (Kd.R_mono HO_3.out (fun k_ hk => (⟨hk, hk.2⟩ : _ ∧ k_ ≠ gb388))) (fun _ hk => hk.2) (.int .i64 t380)) (fun _ hk => hk.2) (.int .i64 t381)) (fun _ hk => hk.2) (.string t382)) (fun _ hk => hk.2) (.int .u8 t383)) (fun _ hk => hk.1.2))); (case aS => exact (bwZ (by apply_rules (transparency := .reducible) [HB.1, bwA, bwN, bwD, bwS, (IsS59.ge HI378.1), GE388.1]))); (case aL => have := LMc8.out; omega); intro v390 w13 ho hb hg hat; rw [← Ny389.1] at ho; have n0_ := aM (IsS59.grown (show IsS59 w _ g378 t385 t386 t387 from by repeat (first | (with_reducible first | exact HI378.1 | apply IsS59.alloc | apply IsS59.drewN | apply IsS59.drew | apply IsS59.set_0 | apply IsS59.set_1 | apply IsS59.set_2 | refine IsS59.far ?_ NB378_388.1 _) | exact HI378.1)) hg (IsS59.own_ne HI378.1 HO_3.out (by decide))); have n1_ := aM (blk_grown (g := gb388) (o := .cells #[.int .i64 t380, .int .i64 t381, .string t382, .int .u8 t383] 36 (0, 0)) (by (with_reducible repeat first | apply bkN | apply bkD | apply bkA); refine put4 (cs := #[.int .i64 0, .int .i64 0, .string (⟨#[]⟩ : ByteArray), .int .u8 0]) ?_ rfl; (with_reducible repeat first | apply bkN | apply bkD | apply bkA); exact BK388.1) hg (Kd.R_away HO_3.out (fun _ hk => hk.2))); have n2_ := aM (hb); have n3_ := aM (ho); clear HI378; clear BK388; clear HB; clear HO_3; have HI378 := n0_; have BK388 := n1_; have HB := n2_; have HO391 := n3_; clear n0_ n1_ n2_ n3_; clear ho hb hg hat))
     go_roundg k1
     case measure => have := HK1.out; omega
     case rel => exact ⟨(y389), (wrap64 (x5_1 + 1)), (t385), (t386), (t387), rfl, H', ⟨by have := HK1.out; omega⟩, ⟨by (with_reducible repeat first | apply Kd.R_alloc | apply Kd.R_drewN | apply Kd.R_drew); exact Kd.R_mono HO391.1 (fun _ hk => trivial)⟩, ⟨by repeat (first | (with_reducible first | exact HI378.1 | apply IsS59.alloc | apply IsS59.drewN | apply IsS59.drew | apply IsS59.set_0 | apply IsS59.set_1 | apply IsS59.set_2 | refine IsS59.far ?_ NB378_388.1 _) | exact HI378.1)⟩, ⟨by apply_rules (transparency := .reducible) [HB.1, bwA, bwN, bwD, bwS, (IsS59.ge HI378.1), GE388.1]⟩⟩
    rw [if_neg c8] at H
    exact absurd H (by simp)
   replace c7 := Bool.eq_false_iff.mpr c7
   subst c7
   replace H : (bodkinref19_Commands.l0 k1 l0 x3_1 (wrap64 (x5_1 + 1)) t385 t386 t387) = some r := by rw [if_neg (show ¬ (false = true) by decide)] at H; exact H
   have H' := aM H
   clear H
   have p379 : 0 ≤ (x5_1 : Int) := of_decide_eq_true (by first | (with_reducible assumption) | assumption)
   have q379 : x5_1 < (l0.length : Int) := of_decide_eq_true (by first | (with_reducible assumption) | assumption)
   obtain ⟨ad379, e379, hx379_0, hx379_1, hx379_2, hx379_3, hx379_4, hx379_5⟩ := at_T25 HR0.out x5_1 p379 q379
   cases e379
   replace hx379_0 := (HB.1.cell (World.block_lt_of_cell? w _ hx379_0)).trans hx379_0
   replace hx379_1 := (HB.1.cell (World.block_lt_of_cell? w _ hx379_1)).trans hx379_1
   replace hx379_2 := (HB.1.cell (World.block_lt_of_cell? w _ hx379_2)).trans hx379_2
   replace hx379_3 := (HB.1.cell (World.block_lt_of_cell? w _ hx379_3)).trans hx379_3
   replace hx379_4 := (HB.1.cell (World.block_lt_of_cell? w _ hx379_4)).trans hx379_4
   replace hx379_5 := (HB.1.cell (World.block_lt_of_cell? w _ hx379_5)).trans hx379_5
   replace p379 := eq_true p379
   replace q379 := eq_true q379
   go_wp2_with (first | ((with_reducible refine gate_callee (f := 29) rfl ?_); refine goesL_ (some 21) rfl rfl Try.func29 (by kernel_rfl) rfl #[.pointer (some ⟨g378, 0, none⟩), .agg #[.int .i64 ((rd_T25 l0 x5_1).f0), .int .i32 ((rd_T25 l0 x5_1).f1), .bool ((rd_T25 l0 x5_1).f2), .bool ((rd_T25 l0 x5_1).f3), .bool ((rd_T25 l0 x5_1).f4), .string ((rd_T25 l0 x5_1).f5)]] rfl (by (try simp only [List.map_toArray, List.map_cons, List.map_nil]); first | done | rfl) ?_; (with_reducible refine (bodkinref19_Binder_Key.calls k1 g378 x379000_1 x379001_1 x379002_1 ((rd_T25 l0 x5_1).f0) ((rd_T25 l0 x5_1).f1) ((rd_T25 l0 x5_1).f2) ((rd_T25 l0 x5_1).f3) ((rd_T25 l0 x5_1).f4) ((rd_T25 l0 x5_1).f5) t380 t381 t382 t383 false t385 t386 t387 w _ ?side1 ?side2 A6.1).mono ?_); (case side1 => apply_rules (transparency := .reducible) [HI378.1, IsS59.alloc, IsS59.drewN, IsS59.drew, IsS59.set_0, IsS59.set_1, IsS59.set_2]); (case side2 => apply_rules (transparency := .reducible) [HB.1, bwA, bwN, bwD, bwS, (IsS59.ge HI378.1)]); rintro e w14 ⟨rfl, hi, hb, hk⟩; refine ⟨_, rfl, ?_⟩; replace HO_3 := aM (Kd.R_mono (Kd.R_keep (IsS59.apart (show IsS59 w _ g378 x379000_1 x379001_1 x379002_1 from by apply_rules (transparency := .reducible) [HI378.1, IsS59.alloc, IsS59.drewN, IsS59.drew, IsS59.set_0, IsS59.set_1, IsS59.set_2]) (by (with_reducible repeat first | apply Kd.R_alloc | apply Kd.R_drewN | apply Kd.R_drew); exact HO_3.out) (by decide)) hk (fun _ h => h.2)) (fun _ h => h.1)); replace HB := aM (hb); replace HI378 := aM (hi); (try clear hb); (try clear hb2); (try clear hk); (try clear hi)) | ((with_reducible refine gate_dst (N := 6) rfl ?_); refine box_event ?hg (N := 6) ?hd (cs := #[.int .i64 0, .int .i64 0, .string (⟨#[]⟩ : ByteArray), .int .u8 0]) (t := 36) ?hr ?_; (case hd => rfl); (case hg => rfl); (case hr => first | (go_simp; done) | (go_simp; rfl)); intro gb388 hg w15 hbox hb; replace HO_3 := aM (Kd.R_below (Kd.R_elderB (by (with_reducible repeat first | apply Kd.R_alloc | apply Kd.R_drewN | apply Kd.R_drew); exact HO_3.out) gb388 (Nat.le_of_eq hg.symm)) hb); have BK388 := aM (hbox); have GW388 := aM ((by rw [hg]; exact (bwZ (by apply_rules (transparency := .reducible) [HB.1, bwA, bwN, bwD, bwS, (IsS59.ge HI378.1)])) : w.heap.size ≤ gb388)); have GE388 := aM ((by rw [hg]; exact (bwZ (by apply_rules (transparency := .reducible) [HB.1, bwA, bwN, bwD, bwS, (IsS59.ge HI378.1)])) : w.heap.size ≤ gb388)); replace HB := aM (below_step (by apply_rules (transparency := .reducible) [HB.1, bwA, bwN, bwD, bwS, (IsS59.ge HI378.1)]) hb); have NB378_388 := aM ((by rw [hg]; exact Nat.ne_of_lt (IsS59.lt (show IsS59 w _ g378 t385 t386 t387 from by apply_rules (transparency := .reducible) [HI378.1, IsS59.alloc, IsS59.drewN, IsS59.drew, IsS59.set_0, IsS59.set_1, IsS59.set_2])) : g378 ≠ gb388)); have NB388_378 := aM ((by rw [hg]; exact Nat.ne_of_gt (IsS59.lt (show IsS59 w _ g378 t385 t386 t387 from by apply_rules (transparency := .reducible) [HI378.1, IsS59.alloc, IsS59.drewN, IsS59.drew, IsS59.set_0, IsS59.set_1, IsS59.set_2])) : gb388 ≠ g378)); replace HI378 := aM (IsS59.below (by apply_rules (transparency := .reducible) [HI378.1, IsS59.alloc, IsS59.drewN, IsS59.drew, IsS59.set_0, IsS59.set_1, IsS59.set_2]) hb); clear hb hbox hg; have hnb16 := NB388_378.1; have hnc16 := NB378_388.1; obtain ⟨z17_0, z17_1, z17_2, z17_3, z17_4, z17_5, z17_6, z17_7⟩ := bx4 BK388.1))
   go_roundg k1
   case measure => have := HK1.out; omega
   case rel => exact ⟨(x3_1), (wrap64 (x5_1 + 1)), (t385), (t386), (t387), rfl, H', ⟨by have := HK1.out; omega⟩, ⟨by (with_reducible repeat first | apply Kd.R_alloc | apply Kd.R_drewN | apply Kd.R_drew); exact Kd.R_mono (Kd.R_far (p := ⟨gb388, 3, none⟩) (Kd.R_far (p := ⟨gb388, 2, none⟩) (Kd.R_far (p := ⟨gb388, 1, none⟩) (Kd.R_far (p := ⟨gb388, 0, none⟩) (Kd.R_mono HO_3.out (fun k_ hk => (⟨hk, hk.2⟩ : _ ∧ k_ ≠ gb388))) (fun _ hk => hk.2) (.int .i64 t380)) (fun _ hk => hk.2) (.int .i64 t381)) (fun _ hk => hk.2) (.string t382)) (fun _ hk => hk.2) (.int .u8 t383)) (fun _ hk => trivial)⟩, ⟨by repeat (first | (with_reducible first | exact HI378.1 | apply IsS59.alloc | apply IsS59.drewN | apply IsS59.drew | apply IsS59.set_0 | apply IsS59.set_1 | apply IsS59.set_2 | refine IsS59.far ?_ NB378_388.1 _) | exact HI378.1)⟩, ⟨by apply_rules (transparency := .reducible) [HB.1, bwA, bwN, bwD, bwS, (IsS59.ge HI378.1), GE388.1]⟩⟩
  rw [if_neg c5] at H
  exact absurd H (by simp)
 rw [if_neg c4] at H
 have c4b0 : decide (x5_1 < (l0.length : Int)) = false := decide_eq_false c4
 clear c4
 obtain rfl := Option.some.inj H
 go_wp2
 go_ret
 exact ⟨_, rfl, by (with_reducible repeat first | apply Kd.R_alloc | apply Kd.R_drewN | apply Kd.R_drew); exact HO_3.out, by apply_rules (transparency := .reducible) [HB.1, bwA, bwN, bwD, bwS, (IsS59.ge HI378.1)]⟩

end Go.Proofs.Ytgkaiagoogjibaa.PBind
